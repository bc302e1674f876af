/-
  The types of this seat's program: sizes, zero values, the rules by which their operations are rewritten.
-/
import Derived.Test.YtefhongghmimgaaProg
import Derived.Test.YtefhongghmimgaaPwX
namespace Go.Proofs.Ytefhongghmimgaa
open Go Go.Pw
set_option linter.unusedVariables false
set_option maxRecDepth 4000
theorem ag1 : aggT Try.prog 1 = some false := by kernel_rfl
theorem sz1 : sizeOf? Try.prog 1 = some 1 := by kernel_rfl
theorem z1 : zeroOf? Try.prog 1 = some (.nilFunc) := by kernel_rfl
theorem ag2 : aggT Try.prog 2 = some false := by kernel_rfl
theorem sz2 : sizeOf? Try.prog 2 = some 1 := by kernel_rfl
theorem z2 : zeroOf? Try.prog 2 = some (.int .i64 0) := by kernel_rfl
theorem by2 : bytesOf? Try.prog 2 = some 8 := by kernel_rfl
theorem ag3 : aggT Try.prog 3 = some false := by kernel_rfl
theorem sz3 : sizeOf? Try.prog 3 = some 1 := by kernel_rfl
theorem z3 : zeroOf? Try.prog 3 = some (.int .i64 0) := by kernel_rfl
theorem by3 : bytesOf? Try.prog 3 = some 8 := by kernel_rfl
theorem ag4 : aggT Try.prog 4 = some false := by kernel_rfl
theorem sz4 : sizeOf? Try.prog 4 = some 1 := by kernel_rfl
theorem z4 : zeroOf? Try.prog 4 = some (.bool false) := by kernel_rfl
theorem by4 : bytesOf? Try.prog 4 = some 1 := by kernel_rfl
theorem ag5 : aggT Try.prog 5 = some false := by kernel_rfl
theorem sz5 : sizeOf? Try.prog 5 = some 1 := by kernel_rfl
theorem z5 : zeroOf? Try.prog 5 = some (.int .u8 0) := by kernel_rfl
theorem by5 : bytesOf? Try.prog 5 = some 1 := by kernel_rfl
theorem ag9 : aggT Try.prog 9 = some false := by kernel_rfl
theorem sz9 : sizeOf? Try.prog 9 = some 1 := by kernel_rfl
theorem z9 : zeroOf? Try.prog 9 = some (.string ByteArray.empty) := by kernel_rfl
theorem by9 : bytesOf? Try.prog 9 = some 16 := by kernel_rfl
theorem ag12 : aggT Try.prog 12 = some false := by kernel_rfl
theorem sz12 : sizeOf? Try.prog 12 = some 1 := by kernel_rfl
theorem z12 : zeroOf? Try.prog 12 = some (.int .u64 0) := by kernel_rfl
theorem by12 : bytesOf? Try.prog 12 = some 8 := by kernel_rfl
theorem ag13 : aggT Try.prog 13 = some true := by kernel_rfl
theorem sz13 : sizeOf? Try.prog 13 = some 2 := by kernel_rfl
theorem z13 : zeroOf? Try.prog 13 = some (.agg #[.string ByteArray.empty, .int .u64 0]) := by kernel_rfl
theorem by13 : bytesOf? Try.prog 13 = some 24 := by kernel_rfl
theorem ag20 : aggT Try.prog 20 = some false := by kernel_rfl
theorem sz20 : sizeOf? Try.prog 20 = some 1 := by kernel_rfl
theorem z20 : zeroOf? Try.prog 20 = some (.nilIface) := by kernel_rfl
theorem ag21 : aggT Try.prog 21 = some false := by kernel_rfl
theorem sz21 : sizeOf? Try.prog 21 = some 1 := by kernel_rfl
theorem z21 : zeroOf? Try.prog 21 = some (.int .i32 0) := by kernel_rfl
theorem by21 : bytesOf? Try.prog 21 = some 4 := by kernel_rfl
theorem ag22 : aggT Try.prog 22 = some false := by kernel_rfl
theorem sz22 : sizeOf? Try.prog 22 = some 1 := by kernel_rfl
theorem z22 : zeroOf? Try.prog 22 = some (.slice none 0 0) := by kernel_rfl
theorem by22 : bytesOf? Try.prog 22 = some 24 := by kernel_rfl
theorem ag23 : aggT Try.prog 23 = some false := by kernel_rfl
theorem sz23 : sizeOf? Try.prog 23 = some 1 := by kernel_rfl
theorem z23 : zeroOf? Try.prog 23 = some (.slice none 0 0) := by kernel_rfl
theorem by23 : bytesOf? Try.prog 23 = some 24 := by kernel_rfl
theorem ag24 : aggT Try.prog 24 = some false := by kernel_rfl
theorem sz24 : sizeOf? Try.prog 24 = some 1 := by kernel_rfl
theorem z24 : zeroOf? Try.prog 24 = some (.nilFunc) := by kernel_rfl
theorem ag25 : aggT Try.prog 25 = some false := by kernel_rfl
theorem sz25 : sizeOf? Try.prog 25 = some 1 := by kernel_rfl
theorem z25 : zeroOf? Try.prog 25 = some (.slice none 0 0) := by kernel_rfl
theorem by25 : bytesOf? Try.prog 25 = some 24 := by kernel_rfl
theorem ag26 : aggT Try.prog 26 = some true := by kernel_rfl
theorem sz26 : sizeOf? Try.prog 26 = some 6 := by kernel_rfl
theorem z26 : zeroOf? Try.prog 26 = some (.agg #[.int .i64 0, .bool false, .int .i64 0, .string ByteArray.empty, .slice none 0 0, .slice none 0 0]) := by kernel_rfl
theorem by26 : bytesOf? Try.prog 26 = some 88 := by kernel_rfl
theorem ag27 : aggT Try.prog 27 = some true := by kernel_rfl
theorem sz27 : sizeOf? Try.prog 27 = some 6 := by kernel_rfl
theorem z27 : zeroOf? Try.prog 27 = some (.agg #[.int .i64 0, .bool false, .int .i64 0, .string ByteArray.empty, .slice none 0 0, .slice none 0 0]) := by kernel_rfl
theorem by27 : bytesOf? Try.prog 27 = some 88 := by kernel_rfl
theorem ag28 : aggT Try.prog 28 = some false := by kernel_rfl
theorem sz28 : sizeOf? Try.prog 28 = some 1 := by kernel_rfl
theorem z28 : zeroOf? Try.prog 28 = some (.nilFunc) := by kernel_rfl
theorem ag29 : aggT Try.prog 29 = some false := by kernel_rfl
theorem sz29 : sizeOf? Try.prog 29 = some 1 := by kernel_rfl
theorem z29 : zeroOf? Try.prog 29 = some (.slice none 0 0) := by kernel_rfl
theorem by29 : bytesOf? Try.prog 29 = some 24 := by kernel_rfl
theorem ag30 : aggT Try.prog 30 = some true := by kernel_rfl
theorem sz30 : sizeOf? Try.prog 30 = some 6 := by kernel_rfl
theorem z30 : zeroOf? Try.prog 30 = some (.agg #[.int .i64 0, .bool false, .int .i64 0, .string ByteArray.empty, .slice none 0 0, .slice none 0 0]) := by kernel_rfl
theorem by30 : bytesOf? Try.prog 30 = some 88 := by kernel_rfl
theorem ag31 : aggT Try.prog 31 = some true := by kernel_rfl
theorem sz31 : sizeOf? Try.prog 31 = some 6 := by kernel_rfl
theorem z31 : zeroOf? Try.prog 31 = some (.agg #[.int .i64 0, .bool false, .int .i64 0, .string ByteArray.empty, .slice none 0 0, .slice none 0 0]) := by kernel_rfl
theorem by31 : bytesOf? Try.prog 31 = some 88 := by kernel_rfl
theorem ag32 : aggT Try.prog 32 = some false := by kernel_rfl
theorem sz32 : sizeOf? Try.prog 32 = some 1 := by kernel_rfl
theorem z32 : zeroOf? Try.prog 32 = some (.nilFunc) := by kernel_rfl
theorem ag33 : aggT Try.prog 33 = some false := by kernel_rfl
theorem sz33 : sizeOf? Try.prog 33 = some 1 := by kernel_rfl
theorem z33 : zeroOf? Try.prog 33 = some (.int .i64 0) := by kernel_rfl
theorem by33 : bytesOf? Try.prog 33 = some 8 := by kernel_rfl
theorem ag35 : aggT Try.prog 35 = some false := by kernel_rfl
theorem sz35 : sizeOf? Try.prog 35 = some 1 := by kernel_rfl
theorem z35 : zeroOf? Try.prog 35 = some (.nilFunc) := by kernel_rfl
theorem ag36 : aggT Try.prog 36 = some false := by kernel_rfl
theorem sz36 : sizeOf? Try.prog 36 = some 1 := by kernel_rfl
theorem z36 : zeroOf? Try.prog 36 = some (.nilFunc) := by kernel_rfl
theorem ag38 : aggT Try.prog 38 = some false := by kernel_rfl
theorem sz38 : sizeOf? Try.prog 38 = some 1 := by kernel_rfl
theorem z38 : zeroOf? Try.prog 38 = some (.nilFunc) := by kernel_rfl
theorem ag39 : aggT Try.prog 39 = some false := by kernel_rfl
theorem sz39 : sizeOf? Try.prog 39 = some 1 := by kernel_rfl
theorem z39 : zeroOf? Try.prog 39 = some (.nilFunc) := by kernel_rfl
theorem ag40 : aggT Try.prog 40 = some false := by kernel_rfl
theorem sz40 : sizeOf? Try.prog 40 = some 1 := by kernel_rfl
theorem z40 : zeroOf? Try.prog 40 = some (.nilFunc) := by kernel_rfl
theorem ag41 : aggT Try.prog 41 = some false := by kernel_rfl
theorem sz41 : sizeOf? Try.prog 41 = some 1 := by kernel_rfl
theorem z41 : zeroOf? Try.prog 41 = some (.nilFunc) := by kernel_rfl
theorem ag43 : aggT Try.prog 43 = some false := by kernel_rfl
theorem sz43 : sizeOf? Try.prog 43 = some 1 := by kernel_rfl
theorem z43 : zeroOf? Try.prog 43 = some (.nilFunc) := by kernel_rfl
theorem ag44 : aggT Try.prog 44 = some false := by kernel_rfl
theorem sz44 : sizeOf? Try.prog 44 = some 1 := by kernel_rfl
theorem z44 : zeroOf? Try.prog 44 = some (.nilFunc) := by kernel_rfl
theorem ag45 : aggT Try.prog 45 = some false := by kernel_rfl
theorem sz45 : sizeOf? Try.prog 45 = some 1 := by kernel_rfl
theorem z45 : zeroOf? Try.prog 45 = some (.nilFunc) := by kernel_rfl
theorem ag46 : aggT Try.prog 46 = some false := by kernel_rfl
theorem sz46 : sizeOf? Try.prog 46 = some 1 := by kernel_rfl
theorem z46 : zeroOf? Try.prog 46 = some (.slice none 0 0) := by kernel_rfl
theorem by46 : bytesOf? Try.prog 46 = some 24 := by kernel_rfl
theorem ag47 : aggT Try.prog 47 = some true := by kernel_rfl
theorem sz47 : sizeOf? Try.prog 47 = some 5 := by kernel_rfl
theorem z47 : zeroOf? Try.prog 47 = some (.agg #[.int .u8 0, .int .i64 0, .string ByteArray.empty, .slice none 0 0, .slice none 0 0]) := by kernel_rfl
theorem by47 : bytesOf? Try.prog 47 = some 80 := by kernel_rfl
theorem ag48 : aggT Try.prog 48 = some true := by kernel_rfl
theorem sz48 : sizeOf? Try.prog 48 = some 5 := by kernel_rfl
theorem z48 : zeroOf? Try.prog 48 = some (.agg #[.int .u8 0, .int .i64 0, .string ByteArray.empty, .slice none 0 0, .slice none 0 0]) := by kernel_rfl
theorem by48 : bytesOf? Try.prog 48 = some 80 := by kernel_rfl
theorem ag49 : aggT Try.prog 49 = some false := by kernel_rfl
theorem sz49 : sizeOf? Try.prog 49 = some 1 := by kernel_rfl
theorem z49 : zeroOf? Try.prog 49 = some (.int .i8 0) := by kernel_rfl
theorem by49 : bytesOf? Try.prog 49 = some 1 := by kernel_rfl
theorem ag50 : aggT Try.prog 50 = some false := by kernel_rfl
theorem sz50 : sizeOf? Try.prog 50 = some 1 := by kernel_rfl
theorem z50 : zeroOf? Try.prog 50 = some (.nilFunc) := by kernel_rfl
theorem ag51 : aggT Try.prog 51 = some false := by kernel_rfl
theorem sz51 : sizeOf? Try.prog 51 = some 1 := by kernel_rfl
theorem z51 : zeroOf? Try.prog 51 = some (.nilFunc) := by kernel_rfl
theorem ag52 : aggT Try.prog 52 = some false := by kernel_rfl
theorem sz52 : sizeOf? Try.prog 52 = some 1 := by kernel_rfl
theorem z52 : zeroOf? Try.prog 52 = some (.nilFunc) := by kernel_rfl
theorem ag53 : aggT Try.prog 53 = some false := by kernel_rfl
theorem sz53 : sizeOf? Try.prog 53 = some 1 := by kernel_rfl
theorem z53 : zeroOf? Try.prog 53 = some (.nilFunc) := by kernel_rfl
theorem ag54 : aggT Try.prog 54 = some false := by kernel_rfl
theorem sz54 : sizeOf? Try.prog 54 = some 1 := by kernel_rfl
theorem z54 : zeroOf? Try.prog 54 = some (.nilFunc) := by kernel_rfl
theorem ag55 : aggT Try.prog 55 = some false := by kernel_rfl
theorem sz55 : sizeOf? Try.prog 55 = some 1 := by kernel_rfl
theorem z55 : zeroOf? Try.prog 55 = some (.nilFunc) := by kernel_rfl
theorem ag56 : aggT Try.prog 56 = some false := by kernel_rfl
theorem sz56 : sizeOf? Try.prog 56 = some 1 := by kernel_rfl
theorem z56 : zeroOf? Try.prog 56 = some (.nilFunc) := by kernel_rfl
theorem ag57 : aggT Try.prog 57 = some false := by kernel_rfl
theorem sz57 : sizeOf? Try.prog 57 = some 1 := by kernel_rfl
theorem z57 : zeroOf? Try.prog 57 = some (.nilFunc) := by kernel_rfl
theorem ag58 : aggT Try.prog 58 = some false := by kernel_rfl
theorem sz58 : sizeOf? Try.prog 58 = some 1 := by kernel_rfl
theorem z58 : zeroOf? Try.prog 58 = some (.nilFunc) := by kernel_rfl
theorem ag59 : aggT Try.prog 59 = some false := by kernel_rfl
theorem sz59 : sizeOf? Try.prog 59 = some 1 := by kernel_rfl
theorem z59 : zeroOf? Try.prog 59 = some (.nilFunc) := by kernel_rfl
theorem ag60 : aggT Try.prog 60 = some false := by kernel_rfl
theorem sz60 : sizeOf? Try.prog 60 = some 1 := by kernel_rfl
theorem z60 : zeroOf? Try.prog 60 = some (.nilFunc) := by kernel_rfl
theorem ag61 : aggT Try.prog 61 = some false := by kernel_rfl
theorem sz61 : sizeOf? Try.prog 61 = some 1 := by kernel_rfl
theorem z61 : zeroOf? Try.prog 61 = some (.nilFunc) := by kernel_rfl
theorem ag62 : aggT Try.prog 62 = some false := by kernel_rfl
theorem sz62 : sizeOf? Try.prog 62 = some 1 := by kernel_rfl
theorem z62 : zeroOf? Try.prog 62 = some (.nilFunc) := by kernel_rfl
theorem ag63 : aggT Try.prog 63 = some false := by kernel_rfl
theorem sz63 : sizeOf? Try.prog 63 = some 1 := by kernel_rfl
theorem z63 : zeroOf? Try.prog 63 = some (.nilFunc) := by kernel_rfl
theorem ag64 : aggT Try.prog 64 = some false := by kernel_rfl
theorem sz64 : sizeOf? Try.prog 64 = some 1 := by kernel_rfl
theorem z64 : zeroOf? Try.prog 64 = some (.nilFunc) := by kernel_rfl
theorem ag65 : aggT Try.prog 65 = some false := by kernel_rfl
theorem sz65 : sizeOf? Try.prog 65 = some 1 := by kernel_rfl
theorem z65 : zeroOf? Try.prog 65 = some (.nilFunc) := by kernel_rfl
theorem ag66 : aggT Try.prog 66 = some false := by kernel_rfl
theorem sz66 : sizeOf? Try.prog 66 = some 1 := by kernel_rfl
theorem z66 : zeroOf? Try.prog 66 = some (.nilFunc) := by kernel_rfl
theorem ag68 : aggT Try.prog 68 = some false := by kernel_rfl
theorem sz68 : sizeOf? Try.prog 68 = some 1 := by kernel_rfl
theorem z68 : zeroOf? Try.prog 68 = some (.nilFunc) := by kernel_rfl
theorem ag69 : aggT Try.prog 69 = some false := by kernel_rfl
theorem sz69 : sizeOf? Try.prog 69 = some 1 := by kernel_rfl
theorem z69 : zeroOf? Try.prog 69 = some (.nilFunc) := by kernel_rfl
theorem ag70 : aggT Try.prog 70 = some false := by kernel_rfl
theorem sz70 : sizeOf? Try.prog 70 = some 1 := by kernel_rfl
theorem z70 : zeroOf? Try.prog 70 = some (.nilFunc) := by kernel_rfl
theorem ag71 : aggT Try.prog 71 = some false := by kernel_rfl
theorem sz71 : sizeOf? Try.prog 71 = some 1 := by kernel_rfl
theorem z71 : zeroOf? Try.prog 71 = some (.slice none 0 0) := by kernel_rfl
theorem by71 : bytesOf? Try.prog 71 = some 24 := by kernel_rfl
theorem ag73 : aggT Try.prog 73 = some false := by kernel_rfl
theorem sz73 : sizeOf? Try.prog 73 = some 1 := by kernel_rfl
theorem z73 : zeroOf? Try.prog 73 = some (.nilFunc) := by kernel_rfl
theorem ag74 : aggT Try.prog 74 = some false := by kernel_rfl
theorem sz74 : sizeOf? Try.prog 74 = some 1 := by kernel_rfl
theorem z74 : zeroOf? Try.prog 74 = some (.nilFunc) := by kernel_rfl
theorem ag75 : aggT Try.prog 75 = some false := by kernel_rfl
theorem sz75 : sizeOf? Try.prog 75 = some 1 := by kernel_rfl
theorem z75 : zeroOf? Try.prog 75 = some (.nilFunc) := by kernel_rfl
theorem ag76 : aggT Try.prog 76 = some false := by kernel_rfl
theorem sz76 : sizeOf? Try.prog 76 = some 1 := by kernel_rfl
theorem z76 : zeroOf? Try.prog 76 = some (.nilFunc) := by kernel_rfl
theorem ag77 : aggT Try.prog 77 = some false := by kernel_rfl
theorem sz77 : sizeOf? Try.prog 77 = some 1 := by kernel_rfl
theorem z77 : zeroOf? Try.prog 77 = some (.nilFunc) := by kernel_rfl
theorem ag78 : aggT Try.prog 78 = some false := by kernel_rfl
theorem sz78 : sizeOf? Try.prog 78 = some 1 := by kernel_rfl
theorem z78 : zeroOf? Try.prog 78 = some (.nilFunc) := by kernel_rfl
theorem ag79 : aggT Try.prog 79 = some false := by kernel_rfl
theorem sz79 : sizeOf? Try.prog 79 = some 1 := by kernel_rfl
theorem z79 : zeroOf? Try.prog 79 = some (.nilFunc) := by kernel_rfl
theorem ag80 : aggT Try.prog 80 = some false := by kernel_rfl
theorem sz80 : sizeOf? Try.prog 80 = some 1 := by kernel_rfl
theorem z80 : zeroOf? Try.prog 80 = some (.nilFunc) := by kernel_rfl
theorem ag81 : aggT Try.prog 81 = some false := by kernel_rfl
theorem sz81 : sizeOf? Try.prog 81 = some 1 := by kernel_rfl
theorem z81 : zeroOf? Try.prog 81 = some (.nilFunc) := by kernel_rfl
theorem ag82 : aggT Try.prog 82 = some false := by kernel_rfl
theorem sz82 : sizeOf? Try.prog 82 = some 1 := by kernel_rfl
theorem z82 : zeroOf? Try.prog 82 = some (.nilFunc) := by kernel_rfl
theorem ag83 : aggT Try.prog 83 = some false := by kernel_rfl
theorem sz83 : sizeOf? Try.prog 83 = some 1 := by kernel_rfl
theorem z83 : zeroOf? Try.prog 83 = some (.nilFunc) := by kernel_rfl
theorem ag84 : aggT Try.prog 84 = some false := by kernel_rfl
theorem sz84 : sizeOf? Try.prog 84 = some 1 := by kernel_rfl
theorem z84 : zeroOf? Try.prog 84 = some (.nilFunc) := by kernel_rfl
theorem ag85 : aggT Try.prog 85 = some false := by kernel_rfl
theorem sz85 : sizeOf? Try.prog 85 = some 1 := by kernel_rfl
theorem z85 : zeroOf? Try.prog 85 = some (.int .u64 0) := by kernel_rfl
theorem by85 : bytesOf? Try.prog 85 = some 8 := by kernel_rfl
theorem ag86 : aggT Try.prog 86 = some false := by kernel_rfl
theorem sz86 : sizeOf? Try.prog 86 = some 1 := by kernel_rfl
theorem z86 : zeroOf? Try.prog 86 = some (.nilFunc) := by kernel_rfl
theorem ag87 : aggT Try.prog 87 = some false := by kernel_rfl
theorem sz87 : sizeOf? Try.prog 87 = some 1 := by kernel_rfl
theorem z87 : zeroOf? Try.prog 87 = some (.nilFunc) := by kernel_rfl
theorem ag88 : aggT Try.prog 88 = some false := by kernel_rfl
theorem sz88 : sizeOf? Try.prog 88 = some 1 := by kernel_rfl
theorem z88 : zeroOf? Try.prog 88 = some (.nilFunc) := by kernel_rfl
theorem ag89 : aggT Try.prog 89 = some false := by kernel_rfl
theorem sz89 : sizeOf? Try.prog 89 = some 1 := by kernel_rfl
theorem z89 : zeroOf? Try.prog 89 = some (.nilFunc) := by kernel_rfl
theorem ag90 : aggT Try.prog 90 = some false := by kernel_rfl
theorem sz90 : sizeOf? Try.prog 90 = some 1 := by kernel_rfl
theorem z90 : zeroOf? Try.prog 90 = some (.nilFunc) := by kernel_rfl
theorem ag92 : aggT Try.prog 92 = some false := by kernel_rfl
theorem sz92 : sizeOf? Try.prog 92 = some 1 := by kernel_rfl
theorem z92 : zeroOf? Try.prog 92 = some (.nilFunc) := by kernel_rfl
theorem ag93 : aggT Try.prog 93 = some false := by kernel_rfl
theorem sz93 : sizeOf? Try.prog 93 = some 1 := by kernel_rfl
theorem z93 : zeroOf? Try.prog 93 = some (.nilFunc) := by kernel_rfl
theorem ag94 : aggT Try.prog 94 = some false := by kernel_rfl
theorem sz94 : sizeOf? Try.prog 94 = some 1 := by kernel_rfl
theorem z94 : zeroOf? Try.prog 94 = some (.nilFunc) := by kernel_rfl
theorem ag95 : aggT Try.prog 95 = some false := by kernel_rfl
theorem sz95 : sizeOf? Try.prog 95 = some 1 := by kernel_rfl
theorem z95 : zeroOf? Try.prog 95 = some (.nilFunc) := by kernel_rfl
theorem ag96 : aggT Try.prog 96 = some false := by kernel_rfl
theorem sz96 : sizeOf? Try.prog 96 = some 1 := by kernel_rfl
theorem z96 : zeroOf? Try.prog 96 = some (.nilFunc) := by kernel_rfl
theorem ag97 : aggT Try.prog 97 = some false := by kernel_rfl
theorem sz97 : sizeOf? Try.prog 97 = some 1 := by kernel_rfl
theorem z97 : zeroOf? Try.prog 97 = some (.nilFunc) := by kernel_rfl
theorem ag98 : aggT Try.prog 98 = some true := by kernel_rfl
theorem sz98 : sizeOf? Try.prog 98 = some 5 := by kernel_rfl
theorem z98 : zeroOf? Try.prog 98 = some (.agg #[.int .i64 0, .int .i64 0, .int .i64 0, .int .i64 0, .int .i64 0]) := by kernel_rfl
theorem by98 : bytesOf? Try.prog 98 = some 40 := by kernel_rfl
theorem ag99 : aggT Try.prog 99 = some false := by kernel_rfl
theorem sz99 : sizeOf? Try.prog 99 = some 1 := by kernel_rfl
theorem z99 : zeroOf? Try.prog 99 = some (.nilFunc) := by kernel_rfl
theorem ag100 : aggT Try.prog 100 = some false := by kernel_rfl
theorem sz100 : sizeOf? Try.prog 100 = some 1 := by kernel_rfl
theorem z100 : zeroOf? Try.prog 100 = some (.nilFunc) := by kernel_rfl
theorem ag101 : aggT Try.prog 101 = some false := by kernel_rfl
theorem sz101 : sizeOf? Try.prog 101 = some 1 := by kernel_rfl
theorem z101 : zeroOf? Try.prog 101 = some (.nilFunc) := by kernel_rfl
theorem ag102 : aggT Try.prog 102 = some false := by kernel_rfl
theorem sz102 : sizeOf? Try.prog 102 = some 1 := by kernel_rfl
theorem z102 : zeroOf? Try.prog 102 = some (.nilFunc) := by kernel_rfl
theorem ag103 : aggT Try.prog 103 = some false := by kernel_rfl
theorem sz103 : sizeOf? Try.prog 103 = some 1 := by kernel_rfl
theorem z103 : zeroOf? Try.prog 103 = some (.nilFunc) := by kernel_rfl
theorem ag104 : aggT Try.prog 104 = some false := by kernel_rfl
theorem sz104 : sizeOf? Try.prog 104 = some 1 := by kernel_rfl
theorem z104 : zeroOf? Try.prog 104 = some (.nilFunc) := by kernel_rfl
theorem ag107 : aggT Try.prog 107 = some true := by kernel_rfl
theorem sz107 : sizeOf? Try.prog 107 = some 0 := by kernel_rfl
theorem z107 : zeroOf? Try.prog 107 = some (.agg #[]) := by kernel_rfl
theorem by107 : bytesOf? Try.prog 107 = some 0 := by kernel_rfl
theorem ag108 : aggT Try.prog 108 = some true := by kernel_rfl
theorem sz108 : sizeOf? Try.prog 108 = some 0 := by kernel_rfl
theorem z108 : zeroOf? Try.prog 108 = some (.agg #[]) := by kernel_rfl
theorem by108 : bytesOf? Try.prog 108 = some 0 := by kernel_rfl
theorem ag110 : aggT Try.prog 110 = some false := by kernel_rfl
theorem sz110 : sizeOf? Try.prog 110 = some 1 := by kernel_rfl
theorem z110 : zeroOf? Try.prog 110 = some (.int .u32 0) := by kernel_rfl
theorem by110 : bytesOf? Try.prog 110 = some 4 := by kernel_rfl
theorem ag113 : aggT Try.prog 113 = some false := by kernel_rfl
theorem sz113 : sizeOf? Try.prog 113 = some 1 := by kernel_rfl
theorem z113 : zeroOf? Try.prog 113 = some (.nilFunc) := by kernel_rfl
theorem ag114 : aggT Try.prog 114 = some false := by kernel_rfl
theorem sz114 : sizeOf? Try.prog 114 = some 1 := by kernel_rfl
theorem z114 : zeroOf? Try.prog 114 = some (.pointer none) := by kernel_rfl
theorem by114 : bytesOf? Try.prog 114 = some 8 := by kernel_rfl
-- 1: func()
theorem rdo1 {cs : List PV} {off : Nat} : readCells Try.prog 1 cs off = cs[off]? := rd_one ag1
-- 2: int64
theorem rdo2 {cs : List PV} {off : Nat} : readCells Try.prog 2 cs off = cs[off]? := rd_one ag2
theorem alc2 {dr : Bool} {st : PS} {id tk : Nat} {K : PS → Prop} {d : Option Tmp} {ty : TypeId} {pos : String} {af : Array Edge} {g : Option (Nat × Bool)} : stepN dr Try.prog ⟨d, .alloc 2, ty, pos, af, g⟩ st id tk K = K (PS.put { st with heap := (id, .box 2 [.val (.int .i64 0)]) :: st.heap } d (.ptr id 0)) := s_allocC z2 rfl rfl
theorem mki2 {dr : Bool} {st : PS} {id tk : Nat} {K : PS → Prop} {d : Option Tmp} {ty : TypeId} {pos : String} {af : Array Edge} {g : Option (Nat × Bool)} {x : Operand} : stepN dr Try.prog ⟨d, .makeInterface 2 x, ty, pos, af, g⟩ st id tk K = bindO (st.ev x) fun p => K (st.put d (.iface 2 p)) := s_makeIface Try.underlying2 rfl
-- 3: int
theorem rdo3 {cs : List PV} {off : Nat} : readCells Try.prog 3 cs off = cs[off]? := rd_one ag3
theorem alc3 {dr : Bool} {st : PS} {id tk : Nat} {K : PS → Prop} {d : Option Tmp} {ty : TypeId} {pos : String} {af : Array Edge} {g : Option (Nat × Bool)} : stepN dr Try.prog ⟨d, .alloc 3, ty, pos, af, g⟩ st id tk K = K (PS.put { st with heap := (id, .box 3 [.val (.int .i64 0)]) :: st.heap } d (.ptr id 0)) := s_allocC z3 rfl rfl
theorem mki3 {dr : Bool} {st : PS} {id tk : Nat} {K : PS → Prop} {d : Option Tmp} {ty : TypeId} {pos : String} {af : Array Edge} {g : Option (Nat × Bool)} {x : Operand} : stepN dr Try.prog ⟨d, .makeInterface 3 x, ty, pos, af, g⟩ st id tk K = bindO (st.ev x) fun p => K (st.put d (.iface 3 p)) := s_makeIface Try.underlying3 rfl
-- 4: bool
theorem rdo4 {cs : List PV} {off : Nat} : readCells Try.prog 4 cs off = cs[off]? := rd_one ag4
theorem alc4 {dr : Bool} {st : PS} {id tk : Nat} {K : PS → Prop} {d : Option Tmp} {ty : TypeId} {pos : String} {af : Array Edge} {g : Option (Nat × Bool)} : stepN dr Try.prog ⟨d, .alloc 4, ty, pos, af, g⟩ st id tk K = K (PS.put { st with heap := (id, .box 4 [.val (.bool false)]) :: st.heap } d (.ptr id 0)) := s_allocC z4 rfl rfl
-- 5: uint8
theorem rdo5 {cs : List PV} {off : Nat} : readCells Try.prog 5 cs off = cs[off]? := rd_one ag5
theorem alc5 {dr : Bool} {st : PS} {id tk : Nat} {K : PS → Prop} {d : Option Tmp} {ty : TypeId} {pos : String} {af : Array Edge} {g : Option (Nat × Bool)} : stepN dr Try.prog ⟨d, .alloc 5, ty, pos, af, g⟩ st id tk K = K (PS.put { st with heap := (id, .box 5 [.val (.int .u8 0)]) :: st.heap } d (.ptr id 0)) := s_allocC z5 rfl rfl
theorem mki5 {dr : Bool} {st : PS} {id tk : Nat} {K : PS → Prop} {d : Option Tmp} {ty : TypeId} {pos : String} {af : Array Edge} {g : Option (Nat × Bool)} {x : Operand} : stepN dr Try.prog ⟨d, .makeInterface 5 x, ty, pos, af, g⟩ st id tk K = bindO (st.ev x) fun p => K (st.put d (.iface 5 p)) := s_makeIface Try.underlying5 rfl
-- 9: string
theorem rdo9 {cs : List PV} {off : Nat} : readCells Try.prog 9 cs off = cs[off]? := rd_one ag9
theorem alc9 {dr : Bool} {st : PS} {id tk : Nat} {K : PS → Prop} {d : Option Tmp} {ty : TypeId} {pos : String} {af : Array Edge} {g : Option (Nat × Bool)} : stepN dr Try.prog ⟨d, .alloc 9, ty, pos, af, g⟩ st id tk K = K (PS.put { st with heap := (id, .box 9 [.val (.string ByteArray.empty)]) :: st.heap } d (.ptr id 0)) := s_allocC z9 rfl rfl
theorem mki9 {dr : Bool} {st : PS} {id tk : Nat} {K : PS → Prop} {d : Option Tmp} {ty : TypeId} {pos : String} {af : Array Edge} {g : Option (Nat × Bool)} {x : Operand} : stepN dr Try.prog ⟨d, .makeInterface 9 x, ty, pos, af, g⟩ st id tk K = bindO (st.ev x) fun p => K (st.put d (.iface 9 p)) := s_makeIface Try.underlying9 rfl
theorem rng9 {dr : Bool} {st : PS} {id tk : Nat} {K : PS → Prop} {d : Option Tmp} {ty : TypeId} {pos : String} {af : Array Edge} {g : Option (Nat × Bool)} {x : Operand} : stepN dr Try.prog ⟨d, .range 9 x, ty, pos, af, g⟩ st id tk K = bindO (st.ev x) (rngP id d st K) := s_range Try.underlying9
theorem lns9 {st : PS} {x : Operand} {K : PV → Prop} : lenK Try.prog st 9 x K = bindO (st.ev x) (lenS K) := len_string Try.underlying9
theorem ixs9 {st : PS} {x y : Operand} {K : PV → Prop} : indexK Try.prog st 9 x y K = bindO (st.ev x) fun p => bindO (st.ev y) fun q => intK q fun i => ixS i K p := ix_string Try.underlying9
theorem sls9 {st : PS} {x : Operand} {lo hi : Option Operand} {K : PV → Prop} : sliceK Try.prog st 9 x lo hi K = bindO (st.ev x) (slcS st lo hi K) := slc_string Try.underlying9
-- 12: uintptr
theorem rdo12 {cs : List PV} {off : Nat} : readCells Try.prog 12 cs off = cs[off]? := rd_one ag12
theorem alc12 {dr : Bool} {st : PS} {id tk : Nat} {K : PS → Prop} {d : Option Tmp} {ty : TypeId} {pos : String} {af : Array Edge} {g : Option (Nat × Bool)} : stepN dr Try.prog ⟨d, .alloc 12, ty, pos, af, g⟩ st id tk K = K (PS.put { st with heap := (id, .box 12 [.val (.int .u64 0)]) :: st.heap } d (.ptr id 0)) := s_allocC z12 rfl rfl
theorem mki12 {dr : Bool} {st : PS} {id tk : Nat} {K : PS → Prop} {d : Option Tmp} {ty : TypeId} {pos : String} {af : Array Edge} {g : Option (Nat × Bool)} {x : Operand} : stepN dr Try.prog ⟨d, .makeInterface 12 x, ty, pos, af, g⟩ st id tk K = bindO (st.ev x) fun p => K (st.put d (.iface 12 p)) := s_makeIface Try.underlying12 rfl
-- 13: struct { msg string; addr uintptr }
theorem rda13 {cs : List PV} {off : Nat} : readCells Try.prog 13 cs off = if off + 2 ≤ cs.length then some (.agg ((cs.drop off).take 2)) else none := rd_agg ag13 sz13
theorem alc13 {dr : Bool} {st : PS} {id tk : Nat} {K : PS → Prop} {d : Option Tmp} {ty : TypeId} {pos : String} {af : Array Edge} {g : Option (Nat × Bool)} : stepN dr Try.prog ⟨d, .alloc 13, ty, pos, af, g⟩ st id tk K = K (PS.put { st with heap := (id, .box 13 [.val (.string ByteArray.empty), .val (.int .u64 0)]) :: st.heap } d (.ptr id 0)) := s_allocC z13 rfl rfl
theorem mki13 {dr : Bool} {st : PS} {id tk : Nat} {K : PS → Prop} {d : Option Tmp} {ty : TypeId} {pos : String} {af : Array Edge} {g : Option (Nat × Bool)} {x : Operand} : stepN dr Try.prog ⟨d, .makeInterface 13 x, ty, pos, af, g⟩ st id tk K = bindO (st.ev x) fun p => K (st.put d (.iface 13 p)) := s_makeIface Try.underlying13 rfl
theorem fa13_0 {st : PS} {x : Operand} {K : PV → Prop} : fieldAddrK Try.prog st 13 x 0 K = bindO (st.ev x) (fldP 0 K) :=
  fld_ (P := Try.prog) (st := st) (x := x) (K := K) (f := 0) Try.underlying13 rfl sz9 (by decide)
theorem fi13_0 {st : PS} {x : Operand} {K : PV → Prop} : fieldK Try.prog st 13 x 0 K = bindO (st.ev x) (fieldP Try.prog 9 0 K) :=
  field_ (P := Try.prog) (st := st) (x := x) (K := K) (f := 0) Try.underlying13 rfl
theorem fa13_1 {st : PS} {x : Operand} {K : PV → Prop} : fieldAddrK Try.prog st 13 x 1 K = bindO (st.ev x) (fldP 1 K) :=
  fld_ (P := Try.prog) (st := st) (x := x) (K := K) (f := 1) Try.underlying13 rfl sz12 (by decide)
theorem fi13_1 {st : PS} {x : Operand} {K : PV → Prop} : fieldK Try.prog st 13 x 1 K = bindO (st.ev x) (fieldP Try.prog 12 1 K) :=
  field_ (P := Try.prog) (st := st) (x := x) (K := K) (f := 1) Try.underlying13 rfl
theorem bld13 {st : PS} {l : List (Nat × Operand)} {K : PV → Prop} : buildK Try.prog st 13 l K = bindO (evParts st l) fun ps => (ps.all fun e => match e.2 with | .tup _ => false | _ => true) = true ∧ bindO (fillP (fun i => [(0, 1), (1, 1)][i]?) [.val (.string ByteArray.empty), .val (.int .u64 0)] ps) fun cs => K (.agg cs) :=
  buildC Try.underlying13 z13 (by kernel_rfl) rfl rfl
-- 20: interface {}
theorem rdo20 {cs : List PV} {off : Nat} : readCells Try.prog 20 cs off = cs[off]? := rd_one ag20
theorem alc20 {dr : Bool} {st : PS} {id tk : Nat} {K : PS → Prop} {d : Option Tmp} {ty : TypeId} {pos : String} {af : Array Edge} {g : Option (Nat × Bool)} : stepN dr Try.prog ⟨d, .alloc 20, ty, pos, af, g⟩ st id tk K = K (PS.put { st with heap := (id, .box 20 [.val (.nilIface)]) :: st.heap } d (.ptr id 0)) := s_allocC z20 rfl rfl
theorem ifx20 : (∃ ms, Try.prog.underlying 20 = some (.interface ms)) = True := eq_true ⟨_, Try.underlying20⟩
-- 21: int32
theorem rdo21 {cs : List PV} {off : Nat} : readCells Try.prog 21 cs off = cs[off]? := rd_one ag21
theorem alc21 {dr : Bool} {st : PS} {id tk : Nat} {K : PS → Prop} {d : Option Tmp} {ty : TypeId} {pos : String} {af : Array Edge} {g : Option (Nat × Bool)} : stepN dr Try.prog ⟨d, .alloc 21, ty, pos, af, g⟩ st id tk K = K (PS.put { st with heap := (id, .box 21 [.val (.int .i32 0)]) :: st.heap } d (.ptr id 0)) := s_allocC z21 rfl rfl
theorem mki21 {dr : Bool} {st : PS} {id tk : Nat} {K : PS → Prop} {d : Option Tmp} {ty : TypeId} {pos : String} {af : Array Edge} {g : Option (Nat × Bool)} {x : Operand} : stepN dr Try.prog ⟨d, .makeInterface 21 x, ty, pos, af, g⟩ st id tk K = bindO (st.ev x) fun p => K (st.put d (.iface 21 p)) := s_makeIface Try.underlying21 rfl
-- 22: []string
theorem rdo22 {cs : List PV} {off : Nat} : readCells Try.prog 22 cs off = cs[off]? := rd_one ag22
theorem alc22 {dr : Bool} {st : PS} {id tk : Nat} {K : PS → Prop} {d : Option Tmp} {ty : TypeId} {pos : String} {af : Array Edge} {g : Option (Nat × Bool)} : stepN dr Try.prog ⟨d, .alloc 22, ty, pos, af, g⟩ st id tk K = K (PS.put { st with heap := (id, .box 22 [.val (.slice none 0 0)]) :: st.heap } d (.ptr id 0)) := s_allocC z22 rfl rfl
theorem lns22 {st : PS} {x : Operand} {K : PV → Prop} : lenK Try.prog st 22 x K = bindO (st.ev x) (lenP K) := len_slice Try.underlying22
theorem ixs22 {st : PS} {x y : Operand} {K : PV → Prop} : indexAddrK Try.prog st 22 x y K = bindO (st.ev x) fun p => bindO (st.ev y) fun q => intK q fun i => ixP 1 i K p := ix_slice Try.underlying22 sz9
theorem sls22 {st : PS} {x : Operand} {lo hi : Option Operand} {K : PV → Prop} : sliceK Try.prog st 22 x lo hi K = bindO (st.ev x) (slcP 1 st lo hi K) := slc_slice Try.underlying22 sz9
theorem app22 {st : PS} {tk : Nat} {x y : Operand} {K : Delta → Prop} : appendK Try.prog st tk ⟨.builtin .append, #[x, y], #[22, 22]⟩ K = bindO (st.ev x) fun d => bindO (st.ev y) fun s => bindO (srcXs st 1 s) fun ys0 => bindO (fzLL ys0) fun ys => (∀ y ∈ ys, y.length = 1) ∧ appT 9 1 16 st tk K d ys :=
  append_t Try.underlying22 sz9 by9 z9 rfl (by decide)
theorem bs22 {dr : Bool} {st : PS} {id tk n : Nat} {K : PS → Prop} {d : Option Tmp} {ty : TypeId} {pos : String} {af : Array Edge} {g : Option (Nat × Bool)} {l : List (Nat × Operand)} :
    stepN dr Try.prog ⟨d, .buildSlice 22 n l.toArray, ty, pos, af, g⟩ st id tk K = bindO (evParts st l) fun ps => bindO (valsOf ps 0) fun xs => (∀ x ∈ xs, x.length = 1) ∧ xs.length = n ∧ n * 1 ≤ 16777216 ∧ K (PS.put { st with toks := upd st.toks tk ⟨9, 1, n⟩ } d (.row tk xs)) :=
  s_buildSlice Try.underlying22 sz9 z9 (by decide) rfl
theorem mks22 {dr : Bool} {st : PS} {id tk : Nat} {K : PS → Prop} {d : Option Tmp} {ty : TypeId} {pos : String} {af : Array Edge} {g : Option (Nat × Bool)} {l c : Operand} : stepN dr Try.prog ⟨d, .makeSlice 22 l c, ty, pos, af, g⟩ st id tk K = bindO (st.ev l) fun p => bindO (st.ev c) fun q => intK p fun n => intK q fun m => n = m ∧ 0 ≤ n ∧ n ≤ 9223372036854775807 ∧ 16 * n ≤ 281474976710656 ∧
    K (PS.put { st with heap := (id, .box 9 ((List.range (n.toNat * 1)).map fun i => [.val (.string ByteArray.empty)].getD (i % 1) (.val .nilIface))) :: st.heap } d (.ms id 0 n.toNat n.toNat)) :=
  s_makeSlice Try.underlying22 sz9 by9 z9 rfl rfl (by decide) rfl
-- 23: []chevallaw03.Node
theorem rdo23 {cs : List PV} {off : Nat} : readCells Try.prog 23 cs off = cs[off]? := rd_one ag23
theorem alc23 {dr : Bool} {st : PS} {id tk : Nat} {K : PS → Prop} {d : Option Tmp} {ty : TypeId} {pos : String} {af : Array Edge} {g : Option (Nat × Bool)} : stepN dr Try.prog ⟨d, .alloc 23, ty, pos, af, g⟩ st id tk K = K (PS.put { st with heap := (id, .box 23 [.val (.slice none 0 0)]) :: st.heap } d (.ptr id 0)) := s_allocC z23 rfl rfl
theorem lns23 {st : PS} {x : Operand} {K : PV → Prop} : lenK Try.prog st 23 x K = bindO (st.ev x) (lenP K) := len_slice Try.underlying23
theorem ixs23 {st : PS} {x y : Operand} {K : PV → Prop} : indexAddrK Try.prog st 23 x y K = bindO (st.ev x) fun p => bindO (st.ev y) fun q => intK q fun i => ixP 5 i K p := ix_slice Try.underlying23 sz48
theorem sls23 {st : PS} {x : Operand} {lo hi : Option Operand} {K : PV → Prop} : sliceK Try.prog st 23 x lo hi K = bindO (st.ev x) (slcP 5 st lo hi K) := slc_slice Try.underlying23 sz48
theorem app23 {st : PS} {tk : Nat} {x y : Operand} {K : Delta → Prop} : appendK Try.prog st tk ⟨.builtin .append, #[x, y], #[23, 23]⟩ K = bindO (st.ev x) fun d => bindO (st.ev y) fun s => bindO (srcXs st 5 s) fun ys0 => bindO (fzLL ys0) fun ys => (∀ y ∈ ys, y.length = 5) ∧ appT 48 5 80 st tk K d ys :=
  append_t Try.underlying23 sz48 by48 z48 rfl (by decide)
theorem bs23 {dr : Bool} {st : PS} {id tk n : Nat} {K : PS → Prop} {d : Option Tmp} {ty : TypeId} {pos : String} {af : Array Edge} {g : Option (Nat × Bool)} {l : List (Nat × Operand)} :
    stepN dr Try.prog ⟨d, .buildSlice 23 n l.toArray, ty, pos, af, g⟩ st id tk K = bindO (evParts st l) fun ps => bindO (valsOf ps 0) fun xs => (∀ x ∈ xs, x.length = 5) ∧ xs.length = n ∧ n * 5 ≤ 16777216 ∧ K (PS.put { st with toks := upd st.toks tk ⟨48, 5, n⟩ } d (.row tk xs)) :=
  s_buildSlice Try.underlying23 sz48 z48 (by decide) rfl
theorem mks23 {dr : Bool} {st : PS} {id tk : Nat} {K : PS → Prop} {d : Option Tmp} {ty : TypeId} {pos : String} {af : Array Edge} {g : Option (Nat × Bool)} {l c : Operand} : stepN dr Try.prog ⟨d, .makeSlice 23 l c, ty, pos, af, g⟩ st id tk K = bindO (st.ev l) fun p => bindO (st.ev c) fun q => intK p fun n => intK q fun m => n = m ∧ 0 ≤ n ∧ n ≤ 9223372036854775807 ∧ 80 * n ≤ 281474976710656 ∧
    K (PS.put { st with heap := (id, .box 48 ((List.range (n.toNat * 5)).map fun i => [.val (.int .u8 0), .val (.int .i64 0), .val (.string ByteArray.empty), .val (.slice none 0 0), .val (.slice none 0 0)].getD (i % 5) (.val .nilIface))) :: st.heap } d (.ms id 0 n.toNat n.toNat)) :=
  s_makeSlice Try.underlying23 sz48 by48 z48 rfl rfl (by decide) rfl
-- 24: func() bool
theorem rdo24 {cs : List PV} {off : Nat} : readCells Try.prog 24 cs off = cs[off]? := rd_one ag24
-- 25: []chevalref03.V
theorem rdo25 {cs : List PV} {off : Nat} : readCells Try.prog 25 cs off = cs[off]? := rd_one ag25
theorem alc25 {dr : Bool} {st : PS} {id tk : Nat} {K : PS → Prop} {d : Option Tmp} {ty : TypeId} {pos : String} {af : Array Edge} {g : Option (Nat × Bool)} : stepN dr Try.prog ⟨d, .alloc 25, ty, pos, af, g⟩ st id tk K = K (PS.put { st with heap := (id, .box 25 [.val (.slice none 0 0)]) :: st.heap } d (.ptr id 0)) := s_allocC z25 rfl rfl
theorem lns25 {st : PS} {x : Operand} {K : PV → Prop} : lenK Try.prog st 25 x K = bindO (st.ev x) (lenP K) := len_slice Try.underlying25
theorem ixs25 {st : PS} {x y : Operand} {K : PV → Prop} : indexAddrK Try.prog st 25 x y K = bindO (st.ev x) fun p => bindO (st.ev y) fun q => intK q fun i => ixP 6 i K p := ix_slice Try.underlying25 sz27
theorem sls25 {st : PS} {x : Operand} {lo hi : Option Operand} {K : PV → Prop} : sliceK Try.prog st 25 x lo hi K = bindO (st.ev x) (slcP 6 st lo hi K) := slc_slice Try.underlying25 sz27
theorem app25 {st : PS} {tk : Nat} {x y : Operand} {K : Delta → Prop} : appendK Try.prog st tk ⟨.builtin .append, #[x, y], #[25, 25]⟩ K = bindO (st.ev x) fun d => bindO (st.ev y) fun s => bindO (srcXs st 6 s) fun ys0 => bindO (fzLL ys0) fun ys => (∀ y ∈ ys, y.length = 6) ∧ appT 27 6 88 st tk K d ys :=
  append_t Try.underlying25 sz27 by27 z27 rfl (by decide)
theorem bs25 {dr : Bool} {st : PS} {id tk n : Nat} {K : PS → Prop} {d : Option Tmp} {ty : TypeId} {pos : String} {af : Array Edge} {g : Option (Nat × Bool)} {l : List (Nat × Operand)} :
    stepN dr Try.prog ⟨d, .buildSlice 25 n l.toArray, ty, pos, af, g⟩ st id tk K = bindO (evParts st l) fun ps => bindO (valsOf ps 0) fun xs => (∀ x ∈ xs, x.length = 6) ∧ xs.length = n ∧ n * 6 ≤ 16777216 ∧ K (PS.put { st with toks := upd st.toks tk ⟨27, 6, n⟩ } d (.row tk xs)) :=
  s_buildSlice Try.underlying25 sz27 z27 (by decide) rfl
theorem mks25 {dr : Bool} {st : PS} {id tk : Nat} {K : PS → Prop} {d : Option Tmp} {ty : TypeId} {pos : String} {af : Array Edge} {g : Option (Nat × Bool)} {l c : Operand} : stepN dr Try.prog ⟨d, .makeSlice 25 l c, ty, pos, af, g⟩ st id tk K = bindO (st.ev l) fun p => bindO (st.ev c) fun q => intK p fun n => intK q fun m => n = m ∧ 0 ≤ n ∧ n ≤ 9223372036854775807 ∧ 88 * n ≤ 281474976710656 ∧
    K (PS.put { st with heap := (id, .box 27 ((List.range (n.toNat * 6)).map fun i => [.val (.int .i64 0), .val (.bool false), .val (.int .i64 0), .val (.string ByteArray.empty), .val (.slice none 0 0), .val (.slice none 0 0)].getD (i % 6) (.val .nilIface))) :: st.heap } d (.ms id 0 n.toNat n.toNat)) :=
  s_makeSlice Try.underlying25 sz27 by27 z27 rfl rfl (by decide) rfl
-- 26: struct { Kind int; Bool bool; Int int64; Str string; Items []chevalref03.V; Keys []string }
theorem rda26 {cs : List PV} {off : Nat} : readCells Try.prog 26 cs off = if off + 6 ≤ cs.length then some (.agg ((cs.drop off).take 6)) else none := rd_agg ag26 sz26
theorem alc26 {dr : Bool} {st : PS} {id tk : Nat} {K : PS → Prop} {d : Option Tmp} {ty : TypeId} {pos : String} {af : Array Edge} {g : Option (Nat × Bool)} : stepN dr Try.prog ⟨d, .alloc 26, ty, pos, af, g⟩ st id tk K = K (PS.put { st with heap := (id, .box 26 [.val (.int .i64 0), .val (.bool false), .val (.int .i64 0), .val (.string ByteArray.empty), .val (.slice none 0 0), .val (.slice none 0 0)]) :: st.heap } d (.ptr id 0)) := s_allocC z26 rfl rfl
theorem mki26 {dr : Bool} {st : PS} {id tk : Nat} {K : PS → Prop} {d : Option Tmp} {ty : TypeId} {pos : String} {af : Array Edge} {g : Option (Nat × Bool)} {x : Operand} : stepN dr Try.prog ⟨d, .makeInterface 26 x, ty, pos, af, g⟩ st id tk K = bindO (st.ev x) fun p => K (st.put d (.iface 26 p)) := s_makeIface Try.underlying26 rfl
theorem fa26_0 {st : PS} {x : Operand} {K : PV → Prop} : fieldAddrK Try.prog st 26 x 0 K = bindO (st.ev x) (fldP 0 K) :=
  fld_ (P := Try.prog) (st := st) (x := x) (K := K) (f := 0) Try.underlying26 rfl sz3 (by decide)
theorem fi26_0 {st : PS} {x : Operand} {K : PV → Prop} : fieldK Try.prog st 26 x 0 K = bindO (st.ev x) (fieldP Try.prog 3 0 K) :=
  field_ (P := Try.prog) (st := st) (x := x) (K := K) (f := 0) Try.underlying26 rfl
theorem fa26_1 {st : PS} {x : Operand} {K : PV → Prop} : fieldAddrK Try.prog st 26 x 1 K = bindO (st.ev x) (fldP 1 K) :=
  fld_ (P := Try.prog) (st := st) (x := x) (K := K) (f := 1) Try.underlying26 rfl sz4 (by decide)
theorem fi26_1 {st : PS} {x : Operand} {K : PV → Prop} : fieldK Try.prog st 26 x 1 K = bindO (st.ev x) (fieldP Try.prog 4 1 K) :=
  field_ (P := Try.prog) (st := st) (x := x) (K := K) (f := 1) Try.underlying26 rfl
theorem fa26_2 {st : PS} {x : Operand} {K : PV → Prop} : fieldAddrK Try.prog st 26 x 2 K = bindO (st.ev x) (fldP 2 K) :=
  fld_ (P := Try.prog) (st := st) (x := x) (K := K) (f := 2) Try.underlying26 rfl sz2 (by decide)
theorem fi26_2 {st : PS} {x : Operand} {K : PV → Prop} : fieldK Try.prog st 26 x 2 K = bindO (st.ev x) (fieldP Try.prog 2 2 K) :=
  field_ (P := Try.prog) (st := st) (x := x) (K := K) (f := 2) Try.underlying26 rfl
theorem fa26_3 {st : PS} {x : Operand} {K : PV → Prop} : fieldAddrK Try.prog st 26 x 3 K = bindO (st.ev x) (fldP 3 K) :=
  fld_ (P := Try.prog) (st := st) (x := x) (K := K) (f := 3) Try.underlying26 rfl sz9 (by decide)
theorem fi26_3 {st : PS} {x : Operand} {K : PV → Prop} : fieldK Try.prog st 26 x 3 K = bindO (st.ev x) (fieldP Try.prog 9 3 K) :=
  field_ (P := Try.prog) (st := st) (x := x) (K := K) (f := 3) Try.underlying26 rfl
theorem fa26_4 {st : PS} {x : Operand} {K : PV → Prop} : fieldAddrK Try.prog st 26 x 4 K = bindO (st.ev x) (fldP 4 K) :=
  fld_ (P := Try.prog) (st := st) (x := x) (K := K) (f := 4) Try.underlying26 rfl sz25 (by decide)
theorem fi26_4 {st : PS} {x : Operand} {K : PV → Prop} : fieldK Try.prog st 26 x 4 K = bindO (st.ev x) (fieldP Try.prog 25 4 K) :=
  field_ (P := Try.prog) (st := st) (x := x) (K := K) (f := 4) Try.underlying26 rfl
theorem fa26_5 {st : PS} {x : Operand} {K : PV → Prop} : fieldAddrK Try.prog st 26 x 5 K = bindO (st.ev x) (fldP 5 K) :=
  fld_ (P := Try.prog) (st := st) (x := x) (K := K) (f := 5) Try.underlying26 rfl sz22 (by decide)
theorem fi26_5 {st : PS} {x : Operand} {K : PV → Prop} : fieldK Try.prog st 26 x 5 K = bindO (st.ev x) (fieldP Try.prog 22 5 K) :=
  field_ (P := Try.prog) (st := st) (x := x) (K := K) (f := 5) Try.underlying26 rfl
theorem bld26 {st : PS} {l : List (Nat × Operand)} {K : PV → Prop} : buildK Try.prog st 26 l K = bindO (evParts st l) fun ps => (ps.all fun e => match e.2 with | .tup _ => false | _ => true) = true ∧ bindO (fillP (fun i => [(0, 1), (1, 1), (2, 1), (3, 1), (4, 1), (5, 1)][i]?) [.val (.int .i64 0), .val (.bool false), .val (.int .i64 0), .val (.string ByteArray.empty), .val (.slice none 0 0), .val (.slice none 0 0)] ps) fun cs => K (.agg cs) :=
  buildC Try.underlying26 z26 (by kernel_rfl) rfl rfl
-- 27: chevalref03.V
theorem rda27 {cs : List PV} {off : Nat} : readCells Try.prog 27 cs off = if off + 6 ≤ cs.length then some (.agg ((cs.drop off).take 6)) else none := rd_agg ag27 sz27
theorem alc27 {dr : Bool} {st : PS} {id tk : Nat} {K : PS → Prop} {d : Option Tmp} {ty : TypeId} {pos : String} {af : Array Edge} {g : Option (Nat × Bool)} : stepN dr Try.prog ⟨d, .alloc 27, ty, pos, af, g⟩ st id tk K = K (PS.put { st with heap := (id, .box 27 [.val (.int .i64 0), .val (.bool false), .val (.int .i64 0), .val (.string ByteArray.empty), .val (.slice none 0 0), .val (.slice none 0 0)]) :: st.heap } d (.ptr id 0)) := s_allocC z27 rfl rfl
theorem mki27 {dr : Bool} {st : PS} {id tk : Nat} {K : PS → Prop} {d : Option Tmp} {ty : TypeId} {pos : String} {af : Array Edge} {g : Option (Nat × Bool)} {x : Operand} : stepN dr Try.prog ⟨d, .makeInterface 27 x, ty, pos, af, g⟩ st id tk K = bindO (st.ev x) fun p => K (st.put d (.iface 27 p)) := s_makeIface Try.underlying27 rfl
theorem fa27_0 {st : PS} {x : Operand} {K : PV → Prop} : fieldAddrK Try.prog st 27 x 0 K = bindO (st.ev x) (fldP 0 K) :=
  fld_ (P := Try.prog) (st := st) (x := x) (K := K) (f := 0) Try.underlying27 rfl sz3 (by decide)
theorem fi27_0 {st : PS} {x : Operand} {K : PV → Prop} : fieldK Try.prog st 27 x 0 K = bindO (st.ev x) (fieldP Try.prog 3 0 K) :=
  field_ (P := Try.prog) (st := st) (x := x) (K := K) (f := 0) Try.underlying27 rfl
theorem fa27_1 {st : PS} {x : Operand} {K : PV → Prop} : fieldAddrK Try.prog st 27 x 1 K = bindO (st.ev x) (fldP 1 K) :=
  fld_ (P := Try.prog) (st := st) (x := x) (K := K) (f := 1) Try.underlying27 rfl sz4 (by decide)
theorem fi27_1 {st : PS} {x : Operand} {K : PV → Prop} : fieldK Try.prog st 27 x 1 K = bindO (st.ev x) (fieldP Try.prog 4 1 K) :=
  field_ (P := Try.prog) (st := st) (x := x) (K := K) (f := 1) Try.underlying27 rfl
theorem fa27_2 {st : PS} {x : Operand} {K : PV → Prop} : fieldAddrK Try.prog st 27 x 2 K = bindO (st.ev x) (fldP 2 K) :=
  fld_ (P := Try.prog) (st := st) (x := x) (K := K) (f := 2) Try.underlying27 rfl sz2 (by decide)
theorem fi27_2 {st : PS} {x : Operand} {K : PV → Prop} : fieldK Try.prog st 27 x 2 K = bindO (st.ev x) (fieldP Try.prog 2 2 K) :=
  field_ (P := Try.prog) (st := st) (x := x) (K := K) (f := 2) Try.underlying27 rfl
theorem fa27_3 {st : PS} {x : Operand} {K : PV → Prop} : fieldAddrK Try.prog st 27 x 3 K = bindO (st.ev x) (fldP 3 K) :=
  fld_ (P := Try.prog) (st := st) (x := x) (K := K) (f := 3) Try.underlying27 rfl sz9 (by decide)
theorem fi27_3 {st : PS} {x : Operand} {K : PV → Prop} : fieldK Try.prog st 27 x 3 K = bindO (st.ev x) (fieldP Try.prog 9 3 K) :=
  field_ (P := Try.prog) (st := st) (x := x) (K := K) (f := 3) Try.underlying27 rfl
theorem fa27_4 {st : PS} {x : Operand} {K : PV → Prop} : fieldAddrK Try.prog st 27 x 4 K = bindO (st.ev x) (fldP 4 K) :=
  fld_ (P := Try.prog) (st := st) (x := x) (K := K) (f := 4) Try.underlying27 rfl sz25 (by decide)
theorem fi27_4 {st : PS} {x : Operand} {K : PV → Prop} : fieldK Try.prog st 27 x 4 K = bindO (st.ev x) (fieldP Try.prog 25 4 K) :=
  field_ (P := Try.prog) (st := st) (x := x) (K := K) (f := 4) Try.underlying27 rfl
theorem fa27_5 {st : PS} {x : Operand} {K : PV → Prop} : fieldAddrK Try.prog st 27 x 5 K = bindO (st.ev x) (fldP 5 K) :=
  fld_ (P := Try.prog) (st := st) (x := x) (K := K) (f := 5) Try.underlying27 rfl sz22 (by decide)
theorem fi27_5 {st : PS} {x : Operand} {K : PV → Prop} : fieldK Try.prog st 27 x 5 K = bindO (st.ev x) (fieldP Try.prog 22 5 K) :=
  field_ (P := Try.prog) (st := st) (x := x) (K := K) (f := 5) Try.underlying27 rfl
theorem bld27 {st : PS} {l : List (Nat × Operand)} {K : PV → Prop} : buildK Try.prog st 27 l K = bindO (evParts st l) fun ps => (ps.all fun e => match e.2 with | .tup _ => false | _ => true) = true ∧ bindO (fillP (fun i => [(0, 1), (1, 1), (2, 1), (3, 1), (4, 1), (5, 1)][i]?) [.val (.int .i64 0), .val (.bool false), .val (.int .i64 0), .val (.string ByteArray.empty), .val (.slice none 0 0), .val (.slice none 0 0)] ps) fun cs => K (.agg cs) :=
  buildC Try.underlying27 z27 (by kernel_rfl) rfl rfl
-- 28: func([]chevallaw03.Node) chevalref03.V
theorem rdo28 {cs : List PV} {off : Nat} : readCells Try.prog 28 cs off = cs[off]? := rd_one ag28
-- 29: []value.Value
theorem rdo29 {cs : List PV} {off : Nat} : readCells Try.prog 29 cs off = cs[off]? := rd_one ag29
theorem alc29 {dr : Bool} {st : PS} {id tk : Nat} {K : PS → Prop} {d : Option Tmp} {ty : TypeId} {pos : String} {af : Array Edge} {g : Option (Nat × Bool)} : stepN dr Try.prog ⟨d, .alloc 29, ty, pos, af, g⟩ st id tk K = K (PS.put { st with heap := (id, .box 29 [.val (.slice none 0 0)]) :: st.heap } d (.ptr id 0)) := s_allocC z29 rfl rfl
theorem lns29 {st : PS} {x : Operand} {K : PV → Prop} : lenK Try.prog st 29 x K = bindO (st.ev x) (lenP K) := len_slice Try.underlying29
theorem ixs29 {st : PS} {x y : Operand} {K : PV → Prop} : indexAddrK Try.prog st 29 x y K = bindO (st.ev x) fun p => bindO (st.ev y) fun q => intK q fun i => ixP 6 i K p := ix_slice Try.underlying29 sz31
theorem sls29 {st : PS} {x : Operand} {lo hi : Option Operand} {K : PV → Prop} : sliceK Try.prog st 29 x lo hi K = bindO (st.ev x) (slcP 6 st lo hi K) := slc_slice Try.underlying29 sz31
theorem app29 {st : PS} {tk : Nat} {x y : Operand} {K : Delta → Prop} : appendK Try.prog st tk ⟨.builtin .append, #[x, y], #[29, 29]⟩ K = bindO (st.ev x) fun d => bindO (st.ev y) fun s => bindO (srcXs st 6 s) fun ys0 => bindO (fzLL ys0) fun ys => (∀ y ∈ ys, y.length = 6) ∧ appT 31 6 88 st tk K d ys :=
  append_t Try.underlying29 sz31 by31 z31 rfl (by decide)
theorem bs29 {dr : Bool} {st : PS} {id tk n : Nat} {K : PS → Prop} {d : Option Tmp} {ty : TypeId} {pos : String} {af : Array Edge} {g : Option (Nat × Bool)} {l : List (Nat × Operand)} :
    stepN dr Try.prog ⟨d, .buildSlice 29 n l.toArray, ty, pos, af, g⟩ st id tk K = bindO (evParts st l) fun ps => bindO (valsOf ps 0) fun xs => (∀ x ∈ xs, x.length = 6) ∧ xs.length = n ∧ n * 6 ≤ 16777216 ∧ K (PS.put { st with toks := upd st.toks tk ⟨31, 6, n⟩ } d (.row tk xs)) :=
  s_buildSlice Try.underlying29 sz31 z31 (by decide) rfl
theorem mks29 {dr : Bool} {st : PS} {id tk : Nat} {K : PS → Prop} {d : Option Tmp} {ty : TypeId} {pos : String} {af : Array Edge} {g : Option (Nat × Bool)} {l c : Operand} : stepN dr Try.prog ⟨d, .makeSlice 29 l c, ty, pos, af, g⟩ st id tk K = bindO (st.ev l) fun p => bindO (st.ev c) fun q => intK p fun n => intK q fun m => n = m ∧ 0 ≤ n ∧ n ≤ 9223372036854775807 ∧ 88 * n ≤ 281474976710656 ∧
    K (PS.put { st with heap := (id, .box 31 ((List.range (n.toNat * 6)).map fun i => [.val (.int .i64 0), .val (.bool false), .val (.int .i64 0), .val (.string ByteArray.empty), .val (.slice none 0 0), .val (.slice none 0 0)].getD (i % 6) (.val .nilIface))) :: st.heap } d (.ms id 0 n.toNat n.toNat)) :=
  s_makeSlice Try.underlying29 sz31 by31 z31 rfl rfl (by decide) rfl
-- 30: struct { Kind int; Bool bool; Int int64; Str string; Items []value.Value; Keys []string }
theorem rda30 {cs : List PV} {off : Nat} : readCells Try.prog 30 cs off = if off + 6 ≤ cs.length then some (.agg ((cs.drop off).take 6)) else none := rd_agg ag30 sz30
theorem alc30 {dr : Bool} {st : PS} {id tk : Nat} {K : PS → Prop} {d : Option Tmp} {ty : TypeId} {pos : String} {af : Array Edge} {g : Option (Nat × Bool)} : stepN dr Try.prog ⟨d, .alloc 30, ty, pos, af, g⟩ st id tk K = K (PS.put { st with heap := (id, .box 30 [.val (.int .i64 0), .val (.bool false), .val (.int .i64 0), .val (.string ByteArray.empty), .val (.slice none 0 0), .val (.slice none 0 0)]) :: st.heap } d (.ptr id 0)) := s_allocC z30 rfl rfl
theorem mki30 {dr : Bool} {st : PS} {id tk : Nat} {K : PS → Prop} {d : Option Tmp} {ty : TypeId} {pos : String} {af : Array Edge} {g : Option (Nat × Bool)} {x : Operand} : stepN dr Try.prog ⟨d, .makeInterface 30 x, ty, pos, af, g⟩ st id tk K = bindO (st.ev x) fun p => K (st.put d (.iface 30 p)) := s_makeIface Try.underlying30 rfl
theorem fa30_0 {st : PS} {x : Operand} {K : PV → Prop} : fieldAddrK Try.prog st 30 x 0 K = bindO (st.ev x) (fldP 0 K) :=
  fld_ (P := Try.prog) (st := st) (x := x) (K := K) (f := 0) Try.underlying30 rfl sz3 (by decide)
theorem fi30_0 {st : PS} {x : Operand} {K : PV → Prop} : fieldK Try.prog st 30 x 0 K = bindO (st.ev x) (fieldP Try.prog 3 0 K) :=
  field_ (P := Try.prog) (st := st) (x := x) (K := K) (f := 0) Try.underlying30 rfl
theorem fa30_1 {st : PS} {x : Operand} {K : PV → Prop} : fieldAddrK Try.prog st 30 x 1 K = bindO (st.ev x) (fldP 1 K) :=
  fld_ (P := Try.prog) (st := st) (x := x) (K := K) (f := 1) Try.underlying30 rfl sz4 (by decide)
theorem fi30_1 {st : PS} {x : Operand} {K : PV → Prop} : fieldK Try.prog st 30 x 1 K = bindO (st.ev x) (fieldP Try.prog 4 1 K) :=
  field_ (P := Try.prog) (st := st) (x := x) (K := K) (f := 1) Try.underlying30 rfl
theorem fa30_2 {st : PS} {x : Operand} {K : PV → Prop} : fieldAddrK Try.prog st 30 x 2 K = bindO (st.ev x) (fldP 2 K) :=
  fld_ (P := Try.prog) (st := st) (x := x) (K := K) (f := 2) Try.underlying30 rfl sz2 (by decide)
theorem fi30_2 {st : PS} {x : Operand} {K : PV → Prop} : fieldK Try.prog st 30 x 2 K = bindO (st.ev x) (fieldP Try.prog 2 2 K) :=
  field_ (P := Try.prog) (st := st) (x := x) (K := K) (f := 2) Try.underlying30 rfl
theorem fa30_3 {st : PS} {x : Operand} {K : PV → Prop} : fieldAddrK Try.prog st 30 x 3 K = bindO (st.ev x) (fldP 3 K) :=
  fld_ (P := Try.prog) (st := st) (x := x) (K := K) (f := 3) Try.underlying30 rfl sz9 (by decide)
theorem fi30_3 {st : PS} {x : Operand} {K : PV → Prop} : fieldK Try.prog st 30 x 3 K = bindO (st.ev x) (fieldP Try.prog 9 3 K) :=
  field_ (P := Try.prog) (st := st) (x := x) (K := K) (f := 3) Try.underlying30 rfl
theorem fa30_4 {st : PS} {x : Operand} {K : PV → Prop} : fieldAddrK Try.prog st 30 x 4 K = bindO (st.ev x) (fldP 4 K) :=
  fld_ (P := Try.prog) (st := st) (x := x) (K := K) (f := 4) Try.underlying30 rfl sz29 (by decide)
theorem fi30_4 {st : PS} {x : Operand} {K : PV → Prop} : fieldK Try.prog st 30 x 4 K = bindO (st.ev x) (fieldP Try.prog 29 4 K) :=
  field_ (P := Try.prog) (st := st) (x := x) (K := K) (f := 4) Try.underlying30 rfl
theorem fa30_5 {st : PS} {x : Operand} {K : PV → Prop} : fieldAddrK Try.prog st 30 x 5 K = bindO (st.ev x) (fldP 5 K) :=
  fld_ (P := Try.prog) (st := st) (x := x) (K := K) (f := 5) Try.underlying30 rfl sz22 (by decide)
theorem fi30_5 {st : PS} {x : Operand} {K : PV → Prop} : fieldK Try.prog st 30 x 5 K = bindO (st.ev x) (fieldP Try.prog 22 5 K) :=
  field_ (P := Try.prog) (st := st) (x := x) (K := K) (f := 5) Try.underlying30 rfl
theorem bld30 {st : PS} {l : List (Nat × Operand)} {K : PV → Prop} : buildK Try.prog st 30 l K = bindO (evParts st l) fun ps => (ps.all fun e => match e.2 with | .tup _ => false | _ => true) = true ∧ bindO (fillP (fun i => [(0, 1), (1, 1), (2, 1), (3, 1), (4, 1), (5, 1)][i]?) [.val (.int .i64 0), .val (.bool false), .val (.int .i64 0), .val (.string ByteArray.empty), .val (.slice none 0 0), .val (.slice none 0 0)] ps) fun cs => K (.agg cs) :=
  buildC Try.underlying30 z30 (by kernel_rfl) rfl rfl
-- 31: value.Value
theorem rda31 {cs : List PV} {off : Nat} : readCells Try.prog 31 cs off = if off + 6 ≤ cs.length then some (.agg ((cs.drop off).take 6)) else none := rd_agg ag31 sz31
theorem alc31 {dr : Bool} {st : PS} {id tk : Nat} {K : PS → Prop} {d : Option Tmp} {ty : TypeId} {pos : String} {af : Array Edge} {g : Option (Nat × Bool)} : stepN dr Try.prog ⟨d, .alloc 31, ty, pos, af, g⟩ st id tk K = K (PS.put { st with heap := (id, .box 31 [.val (.int .i64 0), .val (.bool false), .val (.int .i64 0), .val (.string ByteArray.empty), .val (.slice none 0 0), .val (.slice none 0 0)]) :: st.heap } d (.ptr id 0)) := s_allocC z31 rfl rfl
theorem mki31 {dr : Bool} {st : PS} {id tk : Nat} {K : PS → Prop} {d : Option Tmp} {ty : TypeId} {pos : String} {af : Array Edge} {g : Option (Nat × Bool)} {x : Operand} : stepN dr Try.prog ⟨d, .makeInterface 31 x, ty, pos, af, g⟩ st id tk K = bindO (st.ev x) fun p => K (st.put d (.iface 31 p)) := s_makeIface Try.underlying31 rfl
theorem fa31_0 {st : PS} {x : Operand} {K : PV → Prop} : fieldAddrK Try.prog st 31 x 0 K = bindO (st.ev x) (fldP 0 K) :=
  fld_ (P := Try.prog) (st := st) (x := x) (K := K) (f := 0) Try.underlying31 rfl sz3 (by decide)
theorem fi31_0 {st : PS} {x : Operand} {K : PV → Prop} : fieldK Try.prog st 31 x 0 K = bindO (st.ev x) (fieldP Try.prog 3 0 K) :=
  field_ (P := Try.prog) (st := st) (x := x) (K := K) (f := 0) Try.underlying31 rfl
theorem fa31_1 {st : PS} {x : Operand} {K : PV → Prop} : fieldAddrK Try.prog st 31 x 1 K = bindO (st.ev x) (fldP 1 K) :=
  fld_ (P := Try.prog) (st := st) (x := x) (K := K) (f := 1) Try.underlying31 rfl sz4 (by decide)
theorem fi31_1 {st : PS} {x : Operand} {K : PV → Prop} : fieldK Try.prog st 31 x 1 K = bindO (st.ev x) (fieldP Try.prog 4 1 K) :=
  field_ (P := Try.prog) (st := st) (x := x) (K := K) (f := 1) Try.underlying31 rfl
theorem fa31_2 {st : PS} {x : Operand} {K : PV → Prop} : fieldAddrK Try.prog st 31 x 2 K = bindO (st.ev x) (fldP 2 K) :=
  fld_ (P := Try.prog) (st := st) (x := x) (K := K) (f := 2) Try.underlying31 rfl sz2 (by decide)
theorem fi31_2 {st : PS} {x : Operand} {K : PV → Prop} : fieldK Try.prog st 31 x 2 K = bindO (st.ev x) (fieldP Try.prog 2 2 K) :=
  field_ (P := Try.prog) (st := st) (x := x) (K := K) (f := 2) Try.underlying31 rfl
theorem fa31_3 {st : PS} {x : Operand} {K : PV → Prop} : fieldAddrK Try.prog st 31 x 3 K = bindO (st.ev x) (fldP 3 K) :=
  fld_ (P := Try.prog) (st := st) (x := x) (K := K) (f := 3) Try.underlying31 rfl sz9 (by decide)
theorem fi31_3 {st : PS} {x : Operand} {K : PV → Prop} : fieldK Try.prog st 31 x 3 K = bindO (st.ev x) (fieldP Try.prog 9 3 K) :=
  field_ (P := Try.prog) (st := st) (x := x) (K := K) (f := 3) Try.underlying31 rfl
theorem fa31_4 {st : PS} {x : Operand} {K : PV → Prop} : fieldAddrK Try.prog st 31 x 4 K = bindO (st.ev x) (fldP 4 K) :=
  fld_ (P := Try.prog) (st := st) (x := x) (K := K) (f := 4) Try.underlying31 rfl sz29 (by decide)
theorem fi31_4 {st : PS} {x : Operand} {K : PV → Prop} : fieldK Try.prog st 31 x 4 K = bindO (st.ev x) (fieldP Try.prog 29 4 K) :=
  field_ (P := Try.prog) (st := st) (x := x) (K := K) (f := 4) Try.underlying31 rfl
theorem fa31_5 {st : PS} {x : Operand} {K : PV → Prop} : fieldAddrK Try.prog st 31 x 5 K = bindO (st.ev x) (fldP 5 K) :=
  fld_ (P := Try.prog) (st := st) (x := x) (K := K) (f := 5) Try.underlying31 rfl sz22 (by decide)
theorem fi31_5 {st : PS} {x : Operand} {K : PV → Prop} : fieldK Try.prog st 31 x 5 K = bindO (st.ev x) (fieldP Try.prog 22 5 K) :=
  field_ (P := Try.prog) (st := st) (x := x) (K := K) (f := 5) Try.underlying31 rfl
theorem bld31 {st : PS} {l : List (Nat × Operand)} {K : PV → Prop} : buildK Try.prog st 31 l K = bindO (evParts st l) fun ps => (ps.all fun e => match e.2 with | .tup _ => false | _ => true) = true ∧ bindO (fillP (fun i => [(0, 1), (1, 1), (2, 1), (3, 1), (4, 1), (5, 1)][i]?) [.val (.int .i64 0), .val (.bool false), .val (.int .i64 0), .val (.string ByteArray.empty), .val (.slice none 0 0), .val (.slice none 0 0)] ps) fun cs => K (.agg cs) :=
  buildC Try.underlying31 z31 (by kernel_rfl) rfl rfl
-- 32: func(chevalref03.V) value.Value
theorem rdo32 {cs : List PV} {off : Nat} : readCells Try.prog 32 cs off = cs[off]? := rd_one ag32
-- 33: api.Errno
theorem rdo33 {cs : List PV} {off : Nat} : readCells Try.prog 33 cs off = cs[off]? := rd_one ag33
theorem alc33 {dr : Bool} {st : PS} {id tk : Nat} {K : PS → Prop} {d : Option Tmp} {ty : TypeId} {pos : String} {af : Array Edge} {g : Option (Nat × Bool)} : stepN dr Try.prog ⟨d, .alloc 33, ty, pos, af, g⟩ st id tk K = K (PS.put { st with heap := (id, .box 33 [.val (.int .i64 0)]) :: st.heap } d (.ptr id 0)) := s_allocC z33 rfl rfl
theorem mki33 {dr : Bool} {st : PS} {id tk : Nat} {K : PS → Prop} {d : Option Tmp} {ty : TypeId} {pos : String} {af : Array Edge} {g : Option (Nat × Bool)} {x : Operand} : stepN dr Try.prog ⟨d, .makeInterface 33 x, ty, pos, af, g⟩ st id tk K = bindO (st.ev x) fun p => K (st.put d (.iface 33 p)) := s_makeIface Try.underlying33 rfl
-- 35: func([]string, []value.Value) (value.Value, api.Errno)
theorem rdo35 {cs : List PV} {off : Nat} : readCells Try.prog 35 cs off = cs[off]? := rd_one ag35
-- 36: func(string) bool
theorem rdo36 {cs : List PV} {off : Nat} : readCells Try.prog 36 cs off = cs[off]? := rd_one ag36
-- 38: func(chevalref03.V, string, chevalref03.V) (chevalref03.V, bool)
theorem rdo38 {cs : List PV} {off : Nat} : readCells Try.prog 38 cs off = cs[off]? := rd_one ag38
-- 39: func(chevalref03.V, chevalref03.V) bool
theorem rdo39 {cs : List PV} {off : Nat} : readCells Try.prog 39 cs off = cs[off]? := rd_one ag39
-- 40: func(value.Value) chevalref03.V
theorem rdo40 {cs : List PV} {off : Nat} : readCells Try.prog 40 cs off = cs[off]? := rd_one ag40
-- 41: func([]string, []chevallaw03.Node, uint8) bool
theorem rdo41 {cs : List PV} {off : Nat} : readCells Try.prog 41 cs off = cs[off]? := rd_one ag41
-- 43: func(string) (value.Value, bool)
theorem rdo43 {cs : List PV} {off : Nat} : readCells Try.prog 43 cs off = cs[off]? := rd_one ag43
-- 44: func(chevalref03.V, string) int
theorem rdo44 {cs : List PV} {off : Nat} : readCells Try.prog 44 cs off = cs[off]? := rd_one ag44
-- 45: func([]chevallaw03.Node, string) bool
theorem rdo45 {cs : List PV} {off : Nat} : readCells Try.prog 45 cs off = cs[off]? := rd_one ag45
-- 46: []uint8
theorem rdo46 {cs : List PV} {off : Nat} : readCells Try.prog 46 cs off = cs[off]? := rd_one ag46
theorem alc46 {dr : Bool} {st : PS} {id tk : Nat} {K : PS → Prop} {d : Option Tmp} {ty : TypeId} {pos : String} {af : Array Edge} {g : Option (Nat × Bool)} : stepN dr Try.prog ⟨d, .alloc 46, ty, pos, af, g⟩ st id tk K = K (PS.put { st with heap := (id, .box 46 [.val (.slice none 0 0)]) :: st.heap } d (.ptr id 0)) := s_allocC z46 rfl rfl
theorem lns46 {st : PS} {x : Operand} {K : PV → Prop} : lenK Try.prog st 46 x K = bindO (st.ev x) (lenP K) := len_slice Try.underlying46
theorem ixs46 {st : PS} {x y : Operand} {K : PV → Prop} : indexAddrK Try.prog st 46 x y K = bindO (st.ev x) fun p => bindO (st.ev y) fun q => intK q fun i => ixP 1 i K p := ix_slice Try.underlying46 sz5
theorem sls46 {st : PS} {x : Operand} {lo hi : Option Operand} {K : PV → Prop} : sliceK Try.prog st 46 x lo hi K = bindO (st.ev x) (slcP 1 st lo hi K) := slc_slice Try.underlying46 sz5
theorem app46 {st : PS} {tk : Nat} {x y : Operand} {K : Delta → Prop} : appendK Try.prog st tk ⟨.builtin .append, #[x, y], #[46, 46]⟩ K = bindO (st.ev x) fun d => bindO (st.ev y) fun s => bindO (srcXs st 1 s) fun ys0 => bindO (fzLL ys0) fun ys => (∀ y ∈ ys, y.length = 1) ∧ appT 5 1 1 st tk K d ys :=
  append_t Try.underlying46 sz5 by5 z5 rfl (by decide)
theorem bs46 {dr : Bool} {st : PS} {id tk n : Nat} {K : PS → Prop} {d : Option Tmp} {ty : TypeId} {pos : String} {af : Array Edge} {g : Option (Nat × Bool)} {l : List (Nat × Operand)} :
    stepN dr Try.prog ⟨d, .buildSlice 46 n l.toArray, ty, pos, af, g⟩ st id tk K = bindO (evParts st l) fun ps => bindO (valsOf ps 0) fun xs => (∀ x ∈ xs, x.length = 1) ∧ xs.length = n ∧ n * 1 ≤ 16777216 ∧ K (PS.put { st with toks := upd st.toks tk ⟨5, 1, n⟩ } d (.row tk xs)) :=
  s_buildSlice Try.underlying46 sz5 z5 (by decide) rfl
theorem isb46 : isBytes Try.prog 46 = True := eq_true ⟨5, Try.underlying46, Try.underlying5⟩
theorem aps46 {st : PS} {tk : Nat} {x y : Operand} {K : Delta → Prop} : appendK Try.prog st tk ⟨.builtin .append, #[x, y], #[46, 9]⟩ K = bindO (st.ev x) fun d => bindO (st.ev y) fun s => appS 5 1 st tk K d s :=
  append_s Try.underlying46 Try.underlying9 sz5 by5 z5
theorem cvr46 {k : Nat} {xs : List Int} {K : PV → Prop} : convK Try.prog 46 9 (rowC k xs) K = K (.val (.string (strOfNums xs))) := conv_rowC (by rw [Try.underlying46]; rfl) ⟨5, Try.underlying46, Try.underlying5⟩ Try.underlying9
theorem mks46 {dr : Bool} {st : PS} {id tk : Nat} {K : PS → Prop} {d : Option Tmp} {ty : TypeId} {pos : String} {af : Array Edge} {g : Option (Nat × Bool)} {l c : Operand} : stepN dr Try.prog ⟨d, .makeSlice 46 l c, ty, pos, af, g⟩ st id tk K = bindO (st.ev l) fun p => bindO (st.ev c) fun q => intK p fun n => intK q fun m => n = m ∧ 0 ≤ n ∧ n ≤ 9223372036854775807 ∧ 1 * n ≤ 281474976710656 ∧
    K (PS.put { st with heap := (id, .box 5 ((List.range (n.toNat * 1)).map fun i => [.val (.int .u8 0)].getD (i % 1) (.val .nilIface))) :: st.heap } d (.ms id 0 n.toNat n.toNat)) :=
  s_makeSlice Try.underlying46 sz5 by5 z5 rfl rfl (by decide) rfl
-- 47: struct { Kind uint8; Int int64; Str string; Items []uint8; Keys []string }
theorem rda47 {cs : List PV} {off : Nat} : readCells Try.prog 47 cs off = if off + 5 ≤ cs.length then some (.agg ((cs.drop off).take 5)) else none := rd_agg ag47 sz47
theorem alc47 {dr : Bool} {st : PS} {id tk : Nat} {K : PS → Prop} {d : Option Tmp} {ty : TypeId} {pos : String} {af : Array Edge} {g : Option (Nat × Bool)} : stepN dr Try.prog ⟨d, .alloc 47, ty, pos, af, g⟩ st id tk K = K (PS.put { st with heap := (id, .box 47 [.val (.int .u8 0), .val (.int .i64 0), .val (.string ByteArray.empty), .val (.slice none 0 0), .val (.slice none 0 0)]) :: st.heap } d (.ptr id 0)) := s_allocC z47 rfl rfl
theorem mki47 {dr : Bool} {st : PS} {id tk : Nat} {K : PS → Prop} {d : Option Tmp} {ty : TypeId} {pos : String} {af : Array Edge} {g : Option (Nat × Bool)} {x : Operand} : stepN dr Try.prog ⟨d, .makeInterface 47 x, ty, pos, af, g⟩ st id tk K = bindO (st.ev x) fun p => K (st.put d (.iface 47 p)) := s_makeIface Try.underlying47 rfl
theorem fa47_0 {st : PS} {x : Operand} {K : PV → Prop} : fieldAddrK Try.prog st 47 x 0 K = bindO (st.ev x) (fldP 0 K) :=
  fld_ (P := Try.prog) (st := st) (x := x) (K := K) (f := 0) Try.underlying47 rfl sz5 (by decide)
theorem fi47_0 {st : PS} {x : Operand} {K : PV → Prop} : fieldK Try.prog st 47 x 0 K = bindO (st.ev x) (fieldP Try.prog 5 0 K) :=
  field_ (P := Try.prog) (st := st) (x := x) (K := K) (f := 0) Try.underlying47 rfl
theorem fa47_1 {st : PS} {x : Operand} {K : PV → Prop} : fieldAddrK Try.prog st 47 x 1 K = bindO (st.ev x) (fldP 1 K) :=
  fld_ (P := Try.prog) (st := st) (x := x) (K := K) (f := 1) Try.underlying47 rfl sz2 (by decide)
theorem fi47_1 {st : PS} {x : Operand} {K : PV → Prop} : fieldK Try.prog st 47 x 1 K = bindO (st.ev x) (fieldP Try.prog 2 1 K) :=
  field_ (P := Try.prog) (st := st) (x := x) (K := K) (f := 1) Try.underlying47 rfl
theorem fa47_2 {st : PS} {x : Operand} {K : PV → Prop} : fieldAddrK Try.prog st 47 x 2 K = bindO (st.ev x) (fldP 2 K) :=
  fld_ (P := Try.prog) (st := st) (x := x) (K := K) (f := 2) Try.underlying47 rfl sz9 (by decide)
theorem fi47_2 {st : PS} {x : Operand} {K : PV → Prop} : fieldK Try.prog st 47 x 2 K = bindO (st.ev x) (fieldP Try.prog 9 2 K) :=
  field_ (P := Try.prog) (st := st) (x := x) (K := K) (f := 2) Try.underlying47 rfl
theorem fa47_3 {st : PS} {x : Operand} {K : PV → Prop} : fieldAddrK Try.prog st 47 x 3 K = bindO (st.ev x) (fldP 3 K) :=
  fld_ (P := Try.prog) (st := st) (x := x) (K := K) (f := 3) Try.underlying47 rfl sz46 (by decide)
theorem fi47_3 {st : PS} {x : Operand} {K : PV → Prop} : fieldK Try.prog st 47 x 3 K = bindO (st.ev x) (fieldP Try.prog 46 3 K) :=
  field_ (P := Try.prog) (st := st) (x := x) (K := K) (f := 3) Try.underlying47 rfl
theorem fa47_4 {st : PS} {x : Operand} {K : PV → Prop} : fieldAddrK Try.prog st 47 x 4 K = bindO (st.ev x) (fldP 4 K) :=
  fld_ (P := Try.prog) (st := st) (x := x) (K := K) (f := 4) Try.underlying47 rfl sz22 (by decide)
theorem fi47_4 {st : PS} {x : Operand} {K : PV → Prop} : fieldK Try.prog st 47 x 4 K = bindO (st.ev x) (fieldP Try.prog 22 4 K) :=
  field_ (P := Try.prog) (st := st) (x := x) (K := K) (f := 4) Try.underlying47 rfl
theorem bld47 {st : PS} {l : List (Nat × Operand)} {K : PV → Prop} : buildK Try.prog st 47 l K = bindO (evParts st l) fun ps => (ps.all fun e => match e.2 with | .tup _ => false | _ => true) = true ∧ bindO (fillP (fun i => [(0, 1), (1, 1), (2, 1), (3, 1), (4, 1)][i]?) [.val (.int .u8 0), .val (.int .i64 0), .val (.string ByteArray.empty), .val (.slice none 0 0), .val (.slice none 0 0)] ps) fun cs => K (.agg cs) :=
  buildC Try.underlying47 z47 (by kernel_rfl) rfl rfl
-- 48: chevallaw03.Node
theorem rda48 {cs : List PV} {off : Nat} : readCells Try.prog 48 cs off = if off + 5 ≤ cs.length then some (.agg ((cs.drop off).take 5)) else none := rd_agg ag48 sz48
theorem alc48 {dr : Bool} {st : PS} {id tk : Nat} {K : PS → Prop} {d : Option Tmp} {ty : TypeId} {pos : String} {af : Array Edge} {g : Option (Nat × Bool)} : stepN dr Try.prog ⟨d, .alloc 48, ty, pos, af, g⟩ st id tk K = K (PS.put { st with heap := (id, .box 48 [.val (.int .u8 0), .val (.int .i64 0), .val (.string ByteArray.empty), .val (.slice none 0 0), .val (.slice none 0 0)]) :: st.heap } d (.ptr id 0)) := s_allocC z48 rfl rfl
theorem mki48 {dr : Bool} {st : PS} {id tk : Nat} {K : PS → Prop} {d : Option Tmp} {ty : TypeId} {pos : String} {af : Array Edge} {g : Option (Nat × Bool)} {x : Operand} : stepN dr Try.prog ⟨d, .makeInterface 48 x, ty, pos, af, g⟩ st id tk K = bindO (st.ev x) fun p => K (st.put d (.iface 48 p)) := s_makeIface Try.underlying48 rfl
theorem fa48_0 {st : PS} {x : Operand} {K : PV → Prop} : fieldAddrK Try.prog st 48 x 0 K = bindO (st.ev x) (fldP 0 K) :=
  fld_ (P := Try.prog) (st := st) (x := x) (K := K) (f := 0) Try.underlying48 rfl sz5 (by decide)
theorem fi48_0 {st : PS} {x : Operand} {K : PV → Prop} : fieldK Try.prog st 48 x 0 K = bindO (st.ev x) (fieldP Try.prog 5 0 K) :=
  field_ (P := Try.prog) (st := st) (x := x) (K := K) (f := 0) Try.underlying48 rfl
theorem fa48_1 {st : PS} {x : Operand} {K : PV → Prop} : fieldAddrK Try.prog st 48 x 1 K = bindO (st.ev x) (fldP 1 K) :=
  fld_ (P := Try.prog) (st := st) (x := x) (K := K) (f := 1) Try.underlying48 rfl sz2 (by decide)
theorem fi48_1 {st : PS} {x : Operand} {K : PV → Prop} : fieldK Try.prog st 48 x 1 K = bindO (st.ev x) (fieldP Try.prog 2 1 K) :=
  field_ (P := Try.prog) (st := st) (x := x) (K := K) (f := 1) Try.underlying48 rfl
theorem fa48_2 {st : PS} {x : Operand} {K : PV → Prop} : fieldAddrK Try.prog st 48 x 2 K = bindO (st.ev x) (fldP 2 K) :=
  fld_ (P := Try.prog) (st := st) (x := x) (K := K) (f := 2) Try.underlying48 rfl sz9 (by decide)
theorem fi48_2 {st : PS} {x : Operand} {K : PV → Prop} : fieldK Try.prog st 48 x 2 K = bindO (st.ev x) (fieldP Try.prog 9 2 K) :=
  field_ (P := Try.prog) (st := st) (x := x) (K := K) (f := 2) Try.underlying48 rfl
theorem fa48_3 {st : PS} {x : Operand} {K : PV → Prop} : fieldAddrK Try.prog st 48 x 3 K = bindO (st.ev x) (fldP 3 K) :=
  fld_ (P := Try.prog) (st := st) (x := x) (K := K) (f := 3) Try.underlying48 rfl sz46 (by decide)
theorem fi48_3 {st : PS} {x : Operand} {K : PV → Prop} : fieldK Try.prog st 48 x 3 K = bindO (st.ev x) (fieldP Try.prog 46 3 K) :=
  field_ (P := Try.prog) (st := st) (x := x) (K := K) (f := 3) Try.underlying48 rfl
theorem fa48_4 {st : PS} {x : Operand} {K : PV → Prop} : fieldAddrK Try.prog st 48 x 4 K = bindO (st.ev x) (fldP 4 K) :=
  fld_ (P := Try.prog) (st := st) (x := x) (K := K) (f := 4) Try.underlying48 rfl sz22 (by decide)
theorem fi48_4 {st : PS} {x : Operand} {K : PV → Prop} : fieldK Try.prog st 48 x 4 K = bindO (st.ev x) (fieldP Try.prog 22 4 K) :=
  field_ (P := Try.prog) (st := st) (x := x) (K := K) (f := 4) Try.underlying48 rfl
theorem bld48 {st : PS} {l : List (Nat × Operand)} {K : PV → Prop} : buildK Try.prog st 48 l K = bindO (evParts st l) fun ps => (ps.all fun e => match e.2 with | .tup _ => false | _ => true) = true ∧ bindO (fillP (fun i => [(0, 1), (1, 1), (2, 1), (3, 1), (4, 1)][i]?) [.val (.int .u8 0), .val (.int .i64 0), .val (.string ByteArray.empty), .val (.slice none 0 0), .val (.slice none 0 0)] ps) fun cs => K (.agg cs) :=
  buildC Try.underlying48 z48 (by kernel_rfl) rfl rfl
-- 49: int8
theorem rdo49 {cs : List PV} {off : Nat} : readCells Try.prog 49 cs off = cs[off]? := rd_one ag49
theorem alc49 {dr : Bool} {st : PS} {id tk : Nat} {K : PS → Prop} {d : Option Tmp} {ty : TypeId} {pos : String} {af : Array Edge} {g : Option (Nat × Bool)} : stepN dr Try.prog ⟨d, .alloc 49, ty, pos, af, g⟩ st id tk K = K (PS.put { st with heap := (id, .box 49 [.val (.int .i8 0)]) :: st.heap } d (.ptr id 0)) := s_allocC z49 rfl rfl
theorem mki49 {dr : Bool} {st : PS} {id tk : Nat} {K : PS → Prop} {d : Option Tmp} {ty : TypeId} {pos : String} {af : Array Edge} {g : Option (Nat × Bool)} {x : Operand} : stepN dr Try.prog ⟨d, .makeInterface 49 x, ty, pos, af, g⟩ st id tk K = bindO (st.ev x) fun p => K (st.put d (.iface 49 p)) := s_makeIface Try.underlying49 rfl
-- 50: func(chevalref03.V) bool
theorem rdo50 {cs : List PV} {off : Nat} : readCells Try.prog 50 cs off = cs[off]? := rd_one ag50
-- 51: func([]chevallaw03.Node, chevallaw03.Node, uint8) bool
theorem rdo51 {cs : List PV} {off : Nat} : readCells Try.prog 51 cs off = cs[off]? := rd_one ag51
-- 52: func() int
theorem rdo52 {cs : List PV} {off : Nat} : readCells Try.prog 52 cs off = cs[off]? := rd_one ag52
-- 53: func(chevalref03.V) int
theorem rdo53 {cs : List PV} {off : Nat} : readCells Try.prog 53 cs off = cs[off]? := rd_one ag53
-- 54: func([]chevallaw03.Node) bool
theorem rdo54 {cs : List PV} {off : Nat} : readCells Try.prog 54 cs off = cs[off]? := rd_one ag54
-- 55: func() value.Value
theorem rdo55 {cs : List PV} {off : Nat} : readCells Try.prog 55 cs off = cs[off]? := rd_one ag55
-- 56: func(value.Value)
theorem rdo56 {cs : List PV} {off : Nat} : readCells Try.prog 56 cs off = cs[off]? := rd_one ag56
-- 57: func(...value.Value) value.Value
theorem rdo57 {cs : List PV} {off : Nat} : readCells Try.prog 57 cs off = cs[off]? := rd_one ag57
-- 58: func(bool) value.Value
theorem rdo58 {cs : List PV} {off : Nat} : readCells Try.prog 58 cs off = cs[off]? := rd_one ag58
-- 59: func(int64) value.Value
theorem rdo59 {cs : List PV} {off : Nat} : readCells Try.prog 59 cs off = cs[off]? := rd_one ag59
-- 60: func(string) value.Value
theorem rdo60 {cs : List PV} {off : Nat} : readCells Try.prog 60 cs off = cs[off]? := rd_one ag60
-- 61: func(bool, int64, string) bool
theorem rdo61 {cs : List PV} {off : Nat} : readCells Try.prog 61 cs off = cs[off]? := rd_one ag61
-- 62: func(value.Value, value.Value) int
theorem rdo62 {cs : List PV} {off : Nat} : readCells Try.prog 62 cs off = cs[off]? := rd_one ag62
-- 63: func(value.Value, value.Value) bool
theorem rdo63 {cs : List PV} {off : Nat} : readCells Try.prog 63 cs off = cs[off]? := rd_one ag63
-- 64: func([]chevallaw03.Node, []chevallaw03.Node, []chevallaw03.Node) bool
theorem rdo64 {cs : List PV} {off : Nat} : readCells Try.prog 64 cs off = cs[off]? := rd_one ag64
-- 65: func(string) string
theorem rdo65 {cs : List PV} {off : Nat} : readCells Try.prog 65 cs off = cs[off]? := rd_one ag65
-- 66: func([]string, func(string) bool) bool
theorem rdo66 {cs : List PV} {off : Nat} : readCells Try.prog 66 cs off = cs[off]? := rd_one ag66
-- 68: func([]string, string) (int, bool)
theorem rdo68 {cs : List PV} {off : Nat} : readCells Try.prog 68 cs off = cs[off]? := rd_one ag68
-- 69: func([]string, int, ...string) []string
theorem rdo69 {cs : List PV} {off : Nat} : readCells Try.prog 69 cs off = cs[off]? := rd_one ag69
-- 70: func([]value.Value, int, ...value.Value) []value.Value
theorem rdo70 {cs : List PV} {off : Nat} : readCells Try.prog 70 cs off = cs[off]? := rd_one ag70
-- 71: []int
theorem rdo71 {cs : List PV} {off : Nat} : readCells Try.prog 71 cs off = cs[off]? := rd_one ag71
theorem alc71 {dr : Bool} {st : PS} {id tk : Nat} {K : PS → Prop} {d : Option Tmp} {ty : TypeId} {pos : String} {af : Array Edge} {g : Option (Nat × Bool)} : stepN dr Try.prog ⟨d, .alloc 71, ty, pos, af, g⟩ st id tk K = K (PS.put { st with heap := (id, .box 71 [.val (.slice none 0 0)]) :: st.heap } d (.ptr id 0)) := s_allocC z71 rfl rfl
theorem lns71 {st : PS} {x : Operand} {K : PV → Prop} : lenK Try.prog st 71 x K = bindO (st.ev x) (lenP K) := len_slice Try.underlying71
theorem ixs71 {st : PS} {x y : Operand} {K : PV → Prop} : indexAddrK Try.prog st 71 x y K = bindO (st.ev x) fun p => bindO (st.ev y) fun q => intK q fun i => ixP 1 i K p := ix_slice Try.underlying71 sz3
theorem sls71 {st : PS} {x : Operand} {lo hi : Option Operand} {K : PV → Prop} : sliceK Try.prog st 71 x lo hi K = bindO (st.ev x) (slcP 1 st lo hi K) := slc_slice Try.underlying71 sz3
theorem app71 {st : PS} {tk : Nat} {x y : Operand} {K : Delta → Prop} : appendK Try.prog st tk ⟨.builtin .append, #[x, y], #[71, 71]⟩ K = bindO (st.ev x) fun d => bindO (st.ev y) fun s => bindO (srcXs st 1 s) fun ys0 => bindO (fzLL ys0) fun ys => (∀ y ∈ ys, y.length = 1) ∧ appT 3 1 8 st tk K d ys :=
  append_t Try.underlying71 sz3 by3 z3 rfl (by decide)
theorem bs71 {dr : Bool} {st : PS} {id tk n : Nat} {K : PS → Prop} {d : Option Tmp} {ty : TypeId} {pos : String} {af : Array Edge} {g : Option (Nat × Bool)} {l : List (Nat × Operand)} :
    stepN dr Try.prog ⟨d, .buildSlice 71 n l.toArray, ty, pos, af, g⟩ st id tk K = bindO (evParts st l) fun ps => bindO (valsOf ps 0) fun xs => (∀ x ∈ xs, x.length = 1) ∧ xs.length = n ∧ n * 1 ≤ 16777216 ∧ K (PS.put { st with toks := upd st.toks tk ⟨3, 1, n⟩ } d (.row tk xs)) :=
  s_buildSlice Try.underlying71 sz3 z3 (by decide) rfl
theorem mks71 {dr : Bool} {st : PS} {id tk : Nat} {K : PS → Prop} {d : Option Tmp} {ty : TypeId} {pos : String} {af : Array Edge} {g : Option (Nat × Bool)} {l c : Operand} : stepN dr Try.prog ⟨d, .makeSlice 71 l c, ty, pos, af, g⟩ st id tk K = bindO (st.ev l) fun p => bindO (st.ev c) fun q => intK p fun n => intK q fun m => n = m ∧ 0 ≤ n ∧ n ≤ 9223372036854775807 ∧ 8 * n ≤ 281474976710656 ∧
    K (PS.put { st with heap := (id, .box 3 ((List.range (n.toNat * 1)).map fun i => [.val (.int .i64 0)].getD (i % 1) (.val .nilIface))) :: st.heap } d (.ms id 0 n.toNat n.toNat)) :=
  s_makeSlice Try.underlying71 sz3 by3 z3 rfl rfl (by decide) rfl
-- 73: func(string) ([]int, int)
theorem rdo73 {cs : List PV} {off : Nat} : readCells Try.prog 73 cs off = cs[off]? := rd_one ag73
-- 74: func([]value.Value, func(value.Value) bool) bool
theorem rdo74 {cs : List PV} {off : Nat} : readCells Try.prog 74 cs off = cs[off]? := rd_one ag74
-- 75: func(value.Value) bool
theorem rdo75 {cs : List PV} {off : Nat} : readCells Try.prog 75 cs off = cs[off]? := rd_one ag75
-- 76: func([]string) []string
theorem rdo76 {cs : List PV} {off : Nat} : readCells Try.prog 76 cs off = cs[off]? := rd_one ag76
-- 77: func([]value.Value) []value.Value
theorem rdo77 {cs : List PV} {off : Nat} : readCells Try.prog 77 cs off = cs[off]? := rd_one ag77
-- 78: func(...int) int
theorem rdo78 {cs : List PV} {off : Nat} : readCells Try.prog 78 cs off = cs[off]? := rd_one ag78
-- 79: func(int, int) int
theorem rdo79 {cs : List PV} {off : Nat} : readCells Try.prog 79 cs off = cs[off]? := rd_one ag79
-- 80: func(bool) int
theorem rdo80 {cs : List PV} {off : Nat} : readCells Try.prog 80 cs off = cs[off]? := rd_one ag80
-- 81: func(int64, int64) int
theorem rdo81 {cs : List PV} {off : Nat} : readCells Try.prog 81 cs off = cs[off]? := rd_one ag81
-- 82: func(string, string) int
theorem rdo82 {cs : List PV} {off : Nat} : readCells Try.prog 82 cs off = cs[off]? := rd_one ag82
-- 83: func([]string, func(string) bool) int
theorem rdo83 {cs : List PV} {off : Nat} : readCells Try.prog 83 cs off = cs[off]? := rd_one ag83
-- 84: func(string) (int, bool)
theorem rdo84 {cs : List PV} {off : Nat} : readCells Try.prog 84 cs off = cs[off]? := rd_one ag84
-- 85: uint
theorem rdo85 {cs : List PV} {off : Nat} : readCells Try.prog 85 cs off = cs[off]? := rd_one ag85
theorem alc85 {dr : Bool} {st : PS} {id tk : Nat} {K : PS → Prop} {d : Option Tmp} {ty : TypeId} {pos : String} {af : Array Edge} {g : Option (Nat × Bool)} : stepN dr Try.prog ⟨d, .alloc 85, ty, pos, af, g⟩ st id tk K = K (PS.put { st with heap := (id, .box 85 [.val (.int .u64 0)]) :: st.heap } d (.ptr id 0)) := s_allocC z85 rfl rfl
theorem mki85 {dr : Bool} {st : PS} {id tk : Nat} {K : PS → Prop} {d : Option Tmp} {ty : TypeId} {pos : String} {af : Array Edge} {g : Option (Nat × Bool)} {x : Operand} : stepN dr Try.prog ⟨d, .makeInterface 85 x, ty, pos, af, g⟩ st id tk K = bindO (st.ev x) fun p => K (st.put d (.iface 85 p)) := s_makeIface Try.underlying85 rfl
-- 86: func(string, string) bool
theorem rdo86 {cs : List PV} {off : Nat} : readCells Try.prog 86 cs off = cs[off]? := rd_one ag86
-- 87: func([]string, []string) bool
theorem rdo87 {cs : List PV} {off : Nat} : readCells Try.prog 87 cs off = cs[off]? := rd_one ag87
-- 88: func([]string, int)
theorem rdo88 {cs : List PV} {off : Nat} : readCells Try.prog 88 cs off = cs[off]? := rd_one ag88
-- 89: func([]value.Value, []value.Value) bool
theorem rdo89 {cs : List PV} {off : Nat} : readCells Try.prog 89 cs off = cs[off]? := rd_one ag89
-- 90: func([]value.Value, int)
theorem rdo90 {cs : List PV} {off : Nat} : readCells Try.prog 90 cs off = cs[off]? := rd_one ag90
-- 92: func(string, int) (int, int)
theorem rdo92 {cs : List PV} {off : Nat} : readCells Try.prog 92 cs off = cs[off]? := rd_one ag92
-- 93: func([]value.Value, func(value.Value) bool) int
theorem rdo93 {cs : List PV} {off : Nat} : readCells Try.prog 93 cs off = cs[off]? := rd_one ag93
-- 94: func(int) bool
theorem rdo94 {cs : List PV} {off : Nat} : readCells Try.prog 94 cs off = cs[off]? := rd_one ag94
-- 95: func(int64) bool
theorem rdo95 {cs : List PV} {off : Nat} : readCells Try.prog 95 cs off = cs[off]? := rd_one ag95
-- 96: func(string, func(int)) int
theorem rdo96 {cs : List PV} {off : Nat} : readCells Try.prog 96 cs off = cs[off]? := rd_one ag96
-- 97: func(int)
theorem rdo97 {cs : List PV} {off : Nat} : readCells Try.prog 97 cs off = cs[off]? := rd_one ag97
-- 98: [5]int
theorem rda98 {cs : List PV} {off : Nat} : readCells Try.prog 98 cs off = if off + 5 ≤ cs.length then some (.agg ((cs.drop off).take 5)) else none := rd_agg ag98 sz98
theorem alc98 {dr : Bool} {st : PS} {id tk : Nat} {K : PS → Prop} {d : Option Tmp} {ty : TypeId} {pos : String} {af : Array Edge} {g : Option (Nat × Bool)} : stepN dr Try.prog ⟨d, .alloc 98, ty, pos, af, g⟩ st id tk K = K (PS.put { st with heap := (id, .box 98 [.val (.int .i64 0), .val (.int .i64 0), .val (.int .i64 0), .val (.int .i64 0), .val (.int .i64 0)]) :: st.heap } d (.ptr id 0)) := s_allocC z98 rfl rfl
theorem lns98 {st : PS} {x : Operand} {K : PV → Prop} : lenK Try.prog st 98 x K = K (.val (.int .i64 (5 : Nat))) := len_array Try.underlying98
theorem ixs98 {st : PS} {x y : Operand} {K : PV → Prop} : indexAddrK Try.prog st 98 x y K = bindO (st.ev x) fun p => bindO (st.ev y) fun q => intK q fun i => ixA 1 5 i K p := ix_array Try.underlying98 sz3
theorem bld98 {st : PS} {l : List (Nat × Operand)} {K : PV → Prop} : buildK Try.prog st 98 l K = bindO (evParts st l) fun ps => (ps.all fun e => match e.2 with | .tup _ => false | _ => true) = true ∧ bindO (fillP (fun i => some (i * 1, 1)) [.val (.int .i64 0), .val (.int .i64 0), .val (.int .i64 0), .val (.int .i64 0), .val (.int .i64 0)] ps) fun cs => K (.agg cs) :=
  buildA Try.underlying98 z98 sz3 rfl rfl
-- 99: func(int) []int
theorem rdo99 {cs : List PV} {off : Nat} : readCells Try.prog 99 cs off = cs[off]? := rd_one ag99
-- 100: func(string) (int, int)
theorem rdo100 {cs : List PV} {off : Nat} : readCells Try.prog 100 cs off = cs[off]? := rd_one ag100
-- 101: func([]string)
theorem rdo101 {cs : List PV} {off : Nat} : readCells Try.prog 101 cs off = cs[off]? := rd_one ag101
-- 102: func([]value.Value)
theorem rdo102 {cs : List PV} {off : Nat} : readCells Try.prog 102 cs off = cs[off]? := rd_one ag102
-- 103: func(int32) int
theorem rdo103 {cs : List PV} {off : Nat} : readCells Try.prog 103 cs off = cs[off]? := rd_one ag103
-- 104: func() string
theorem rdo104 {cs : List PV} {off : Nat} : readCells Try.prog 104 cs off = cs[off]? := rd_one ag104
-- 107: [0]*runtime.PanicNilError
-- 108: struct { _ [0]*runtime.PanicNilError }
theorem mki108 {dr : Bool} {st : PS} {id tk : Nat} {K : PS → Prop} {d : Option Tmp} {ty : TypeId} {pos : String} {af : Array Edge} {g : Option (Nat × Bool)} {x : Operand} : stepN dr Try.prog ⟨d, .makeInterface 108 x, ty, pos, af, g⟩ st id tk K = bindO (st.ev x) fun p => K (st.put d (.iface 108 p)) := s_makeIface Try.underlying108 rfl
-- 110: uint32
theorem rdo110 {cs : List PV} {off : Nat} : readCells Try.prog 110 cs off = cs[off]? := rd_one ag110
theorem alc110 {dr : Bool} {st : PS} {id tk : Nat} {K : PS → Prop} {d : Option Tmp} {ty : TypeId} {pos : String} {af : Array Edge} {g : Option (Nat × Bool)} : stepN dr Try.prog ⟨d, .alloc 110, ty, pos, af, g⟩ st id tk K = K (PS.put { st with heap := (id, .box 110 [.val (.int .u32 0)]) :: st.heap } d (.ptr id 0)) := s_allocC z110 rfl rfl
theorem mki110 {dr : Bool} {st : PS} {id tk : Nat} {K : PS → Prop} {d : Option Tmp} {ty : TypeId} {pos : String} {af : Array Edge} {g : Option (Nat × Bool)} {x : Operand} : stepN dr Try.prog ⟨d, .makeInterface 110 x, ty, pos, af, g⟩ st id tk K = bindO (st.ev x) fun p => K (st.put d (.iface 110 p)) := s_makeIface Try.underlying110 rfl
-- 113: func(unsafe.Pointer, unsafe.Pointer) bool
theorem rdo113 {cs : List PV} {off : Nat} : readCells Try.prog 113 cs off = cs[off]? := rd_one ag113
-- 114: *uint8
theorem rdo114 {cs : List PV} {off : Nat} : readCells Try.prog 114 cs off = cs[off]? := rd_one ag114
theorem alc114 {dr : Bool} {st : PS} {id tk : Nat} {K : PS → Prop} {d : Option Tmp} {ty : TypeId} {pos : String} {af : Array Edge} {g : Option (Nat × Bool)} : stepN dr Try.prog ⟨d, .alloc 114, ty, pos, af, g⟩ st id tk K = K (PS.put { st with heap := (id, .box 114 [.val (.pointer none)]) :: st.heap } d (.ptr id 0)) := s_allocC z114 rfl rfl
theorem mki114 {dr : Bool} {st : PS} {id tk : Nat} {K : PS → Prop} {d : Option Tmp} {ty : TypeId} {pos : String} {af : Array Edge} {g : Option (Nat × Bool)} {x : Operand} : stepN dr Try.prog ⟨d, .makeInterface 114 x, ty, pos, af, g⟩ st id tk K = bindO (st.ev x) fun p => K (st.put d (.iface 114 p)) := s_makeIface Try.underlying114 rfl
attribute [go_sem ↓] alc2 mki2 alc3 mki3 alc4 alc5 mki5 alc9 mki9 rng9 lns9 ixs9 sls9 alc12 mki12 alc13 mki13 fa13_0 fi13_0 fa13_1 fi13_1 bld13 alc20 alc21 mki21 alc22 lns22 ixs22 sls22 app22 bs22 mks22 alc23 lns23 ixs23 sls23 app23 bs23 mks23 alc25 lns25 ixs25 sls25 app25 bs25 mks25 alc26 mki26 fa26_0 fi26_0 fa26_1 fi26_1 fa26_2 fi26_2 fa26_3 fi26_3 fa26_4 fi26_4 fa26_5 fi26_5 bld26 alc27 mki27 fa27_0 fi27_0 fa27_1 fi27_1 fa27_2 fi27_2 fa27_3 fi27_3 fa27_4 fi27_4 fa27_5 fi27_5 bld27 alc29 lns29 ixs29 sls29 app29 bs29 mks29 alc30 mki30 fa30_0 fi30_0 fa30_1 fi30_1 fa30_2 fi30_2 fa30_3 fi30_3 fa30_4 fi30_4 fa30_5 fi30_5 bld30 alc31 mki31 fa31_0 fi31_0 fa31_1 fi31_1 fa31_2 fi31_2 fa31_3 fi31_3 fa31_4 fi31_4 fa31_5 fi31_5 bld31 alc33 mki33 alc46 lns46 ixs46 sls46 aps46 cvr46 app46 bs46 mks46 alc47 mki47 fa47_0 fi47_0 fa47_1 fi47_1 fa47_2 fi47_2 fa47_3 fi47_3 fa47_4 fi47_4 bld47 alc48 mki48 fa48_0 fi48_0 fa48_1 fi48_1 fa48_2 fi48_2 fa48_3 fi48_3 fa48_4 fi48_4 bld48 alc49 mki49 alc71 lns71 ixs71 sls71 app71 bs71 mks71 alc85 mki85 alc98 lns98 ixs98 bld98 mki108 alc110 mki110 alc114 mki114
attribute [go_sem] rdo1 sz1 rdo2 sz2 Try.underlying2 rdo3 sz3 Try.underlying3 rdo4 sz4 Try.underlying4 rdo5 sz5 Try.underlying5 rdo9 sz9 Try.underlying9 rdo12 sz12 Try.underlying12 rda13 sz13 rdo20 sz20 ifx20 rdo21 sz21 Try.underlying21 rdo22 sz22 rdo23 sz23 rdo24 sz24 rdo25 sz25 rda26 sz26 rda27 sz27 rdo28 sz28 rdo29 sz29 rda30 sz30 rda31 sz31 rdo32 sz32 rdo33 sz33 Try.underlying33 rdo35 sz35 rdo36 sz36 rdo38 sz38 rdo39 sz39 rdo40 sz40 rdo41 sz41 rdo43 sz43 rdo44 sz44 rdo45 sz45 rdo46 sz46 isb46 Try.underlying46 rda47 sz47 rda48 sz48 rdo49 sz49 Try.underlying49 rdo50 sz50 rdo51 sz51 rdo52 sz52 rdo53 sz53 rdo54 sz54 rdo55 sz55 rdo56 sz56 rdo57 sz57 rdo58 sz58 rdo59 sz59 rdo60 sz60 rdo61 sz61 rdo62 sz62 rdo63 sz63 rdo64 sz64 rdo65 sz65 rdo66 sz66 rdo68 sz68 rdo69 sz69 rdo70 sz70 rdo71 sz71 rdo73 sz73 rdo74 sz74 rdo75 sz75 rdo76 sz76 rdo77 sz77 rdo78 sz78 rdo79 sz79 rdo80 sz80 rdo81 sz81 rdo82 sz82 rdo83 sz83 rdo84 sz84 rdo85 sz85 Try.underlying85 rdo86 sz86 rdo87 sz87 rdo88 sz88 rdo89 sz89 rdo90 sz90 rdo92 sz92 rdo93 sz93 rdo94 sz94 rdo95 sz95 rdo96 sz96 rdo97 sz97 rda98 sz98 rdo99 sz99 rdo100 sz100 rdo101 sz101 rdo102 sz102 rdo103 sz103 rdo104 sz104 sz107 sz108 rdo110 sz110 Try.underlying110 rdo113 sz113 rdo114 sz114
end Go.Proofs.Ytefhongghmimgaa
