/- part 12 of the proof -/
import Derived.Test.YtaelofhhkpacbaaGreatDoorProg
import Derived.KernelRfl
import Derived.Test.YtaelofhhkpacbaaGreatDoorT11
set_option linter.all false
open Go Go.Abs Go.Proofs
set_option maxRecDepth 100000
namespace Go.Rd
attribute [go_sem] if_pos wrap64 Int.natCast_add
theorem fol : Tryz.prog.follows .mixedOrders = true := by kernel_rfl
@[go_sem] theorem F.sz1 : szOf Tryz.prog 1 = some 1 := by kernel_rfl
@[go_sem] theorem F.ag1 : aggOf Tryz.prog 1 = some false := by kernel_rfl
@[go_sem] theorem F.ze1 : zeroOf Tryz.prog 1 = some [.nilFunc] := by kernel_rfl
@[go_sem] theorem F.sz3 : szOf Tryz.prog 3 = some 1 := by kernel_rfl
@[go_sem] theorem F.ag3 : aggOf Tryz.prog 3 = some false := by kernel_rfl
@[go_sem] theorem F.ze3 : zeroOf Tryz.prog 3 = some [.int .i64 0] := by kernel_rfl
@[go_sem] theorem F.in3 : intT Tryz.prog 3 = some .i64 := by kernel_rfl
@[go_sem] theorem F.sl3 : isSliceT Tryz.prog 3 = false := by kernel_rfl
@[go_sem] theorem F.i63 : isI64 Tryz.prog 3 = true := by kernel_rfl
@[go_sem] theorem F.sz4 : szOf Tryz.prog 4 = some 1 := by kernel_rfl
@[go_sem] theorem F.ag4 : aggOf Tryz.prog 4 = some false := by kernel_rfl
@[go_sem] theorem F.ze4 : zeroOf Tryz.prog 4 = some [.bool false] := by kernel_rfl
@[go_sem] theorem F.bo4 : boolT Tryz.prog 4 = true := by kernel_rfl
@[go_sem] theorem F.sz5 : szOf Tryz.prog 5 = some 1 := by kernel_rfl
@[go_sem] theorem F.ag5 : aggOf Tryz.prog 5 = some false := by kernel_rfl
@[go_sem] theorem F.ze5 : zeroOf Tryz.prog 5 = some [.int .u8 0] := by kernel_rfl
@[go_sem] theorem F.in5 : intT Tryz.prog 5 = some .u8 := by kernel_rfl
@[go_sem] theorem F.sl5 : isSliceT Tryz.prog 5 = false := by kernel_rfl
@[go_sem] theorem F.i65 : isI64 Tryz.prog 5 = false := by kernel_rfl
@[go_sem] theorem F.sz9 : szOf Tryz.prog 9 = some 1 := by kernel_rfl
@[go_sem] theorem F.ag9 : aggOf Tryz.prog 9 = some false := by kernel_rfl
@[go_sem] theorem F.ze9 : zeroOf Tryz.prog 9 = some [.string (str [])] := by kernel_rfl
@[go_sem] theorem F.st9 : strT Tryz.prog 9 = true := by kernel_rfl
@[go_sem] theorem F.by9 : isBytesT Tryz.prog 9 = false := by kernel_rfl
@[go_sem] theorem F.sz22 : szOf Tryz.prog 22 = some 1 := by kernel_rfl
@[go_sem] theorem F.ag22 : aggOf Tryz.prog 22 = some false := by kernel_rfl
@[go_sem] theorem F.ze22 : zeroOf Tryz.prog 22 = some [.slice none 0 0] := by kernel_rfl
@[go_sem] theorem F.el22 : elemOfSlice Tryz.prog 22 = some (51, 8) := by kernel_rfl
@[go_sem] theorem F.ro22 : rowInf Tryz.prog 22 = some (51, 8, 120) := by kernel_rfl
@[go_sem] theorem F.sl22 : isSliceT Tryz.prog 22 = true := by kernel_rfl
@[go_sem] theorem F.by22 : isBytesT Tryz.prog 22 = false := by kernel_rfl
@[go_sem] theorem F.st22 : strT Tryz.prog 22 = false := by kernel_rfl
@[go_sem] theorem F.sz23 : szOf Tryz.prog 23 = some 1 := by kernel_rfl
@[go_sem] theorem F.ag23 : aggOf Tryz.prog 23 = some false := by kernel_rfl
@[go_sem] theorem F.ze23 : zeroOf Tryz.prog 23 = some [.slice none 0 0] := by kernel_rfl
@[go_sem] theorem F.el23 : elemOfSlice Tryz.prog 23 = some (62, 9) := by kernel_rfl
@[go_sem] theorem F.ro23 : rowInf Tryz.prog 23 = some (62, 9, 96) := by kernel_rfl
@[go_sem] theorem F.sl23 : isSliceT Tryz.prog 23 = true := by kernel_rfl
@[go_sem] theorem F.by23 : isBytesT Tryz.prog 23 = false := by kernel_rfl
@[go_sem] theorem F.st23 : strT Tryz.prog 23 = false := by kernel_rfl
@[go_sem] theorem F.sz25 : szOf Tryz.prog 25 = some 2 := by kernel_rfl
@[go_sem] theorem F.ag25 : aggOf Tryz.prog 25 = some true := by kernel_rfl
@[go_sem] theorem F.ze25 : zeroOf Tryz.prog 25 = some [.slice none 0 0, .slice none 0 0] := by kernel_rfl
@[go_sem] theorem F.sd25 : sized Tryz.prog 25 = true := by kernel_rfl
@[go_sem] theorem F.of25_0 : offOf Tryz.prog 25 0 = some 0 := by kernel_rfl
@[go_sem] theorem F.pl25_0 : placeOf Tryz.prog 25 0 = some (0, 1) := by kernel_rfl
@[go_sem] theorem F.of25_1 : offOf Tryz.prog 25 1 = some 1 := by kernel_rfl
@[go_sem] theorem F.pl25_1 : placeOf Tryz.prog 25 1 = some (1, 1) := by kernel_rfl
@[go_sem] theorem F.sz26 : szOf Tryz.prog 26 = some 1 := by kernel_rfl
@[go_sem] theorem F.ag26 : aggOf Tryz.prog 26 = some false := by kernel_rfl
@[go_sem] theorem F.ze26 : zeroOf Tryz.prog 26 = some [.slice none 0 0] := by kernel_rfl
@[go_sem] theorem F.el26 : elemOfSlice Tryz.prog 26 = some (45, 3) := by kernel_rfl
@[go_sem] theorem F.ro26 : rowInf Tryz.prog 26 = some (45, 3, 24) := by kernel_rfl
@[go_sem] theorem F.sl26 : isSliceT Tryz.prog 26 = true := by kernel_rfl
@[go_sem] theorem F.by26 : isBytesT Tryz.prog 26 = false := by kernel_rfl
@[go_sem] theorem F.st26 : strT Tryz.prog 26 = false := by kernel_rfl
@[go_sem] theorem F.sz29 : szOf Tryz.prog 29 = some 1 := by kernel_rfl
@[go_sem] theorem F.ag29 : aggOf Tryz.prog 29 = some false := by kernel_rfl
@[go_sem] theorem F.ze29 : zeroOf Tryz.prog 29 = some [.slice none 0 0] := by kernel_rfl
@[go_sem] theorem F.el29 : elemOfSlice Tryz.prog 29 = some (65, 6) := by kernel_rfl
@[go_sem] theorem F.ro29 : rowInf Tryz.prog 29 = some (65, 6, 72) := by kernel_rfl
@[go_sem] theorem F.sl29 : isSliceT Tryz.prog 29 = true := by kernel_rfl
@[go_sem] theorem F.by29 : isBytesT Tryz.prog 29 = false := by kernel_rfl
@[go_sem] theorem F.st29 : strT Tryz.prog 29 = false := by kernel_rfl
@[go_sem] theorem F.sz31 : szOf Tryz.prog 31 = some 4 := by kernel_rfl
@[go_sem] theorem F.ag31 : aggOf Tryz.prog 31 = some true := by kernel_rfl
@[go_sem] theorem F.ze31 : zeroOf Tryz.prog 31 = some [.slice none 0 0, .slice none 0 0, .slice none 0 0, .slice none 0 0] := by kernel_rfl
@[go_sem] theorem F.sd31 : sized Tryz.prog 31 = true := by kernel_rfl
@[go_sem] theorem F.of31_0 : offOf Tryz.prog 31 0 = some 0 := by kernel_rfl
@[go_sem] theorem F.pl31_0 : placeOf Tryz.prog 31 0 = some (0, 2) := by kernel_rfl
@[go_sem] theorem F.of31_1 : offOf Tryz.prog 31 1 = some 2 := by kernel_rfl
@[go_sem] theorem F.pl31_1 : placeOf Tryz.prog 31 1 = some (2, 1) := by kernel_rfl
@[go_sem] theorem F.of31_2 : offOf Tryz.prog 31 2 = some 3 := by kernel_rfl
@[go_sem] theorem F.pl31_2 : placeOf Tryz.prog 31 2 = some (3, 1) := by kernel_rfl
@[go_sem] theorem F.sz32 : szOf Tryz.prog 32 = some 1 := by kernel_rfl
@[go_sem] theorem F.ag32 : aggOf Tryz.prog 32 = some false := by kernel_rfl
@[go_sem] theorem F.ze32 : zeroOf Tryz.prog 32 = some [.int .i64 0] := by kernel_rfl
@[go_sem] theorem F.in32 : intT Tryz.prog 32 = some .i64 := by kernel_rfl
@[go_sem] theorem F.sl32 : isSliceT Tryz.prog 32 = false := by kernel_rfl
@[go_sem] theorem F.i632 : isI64 Tryz.prog 32 = true := by kernel_rfl
@[go_sem] theorem F.sz45 : szOf Tryz.prog 45 = some 3 := by kernel_rfl
@[go_sem] theorem F.ag45 : aggOf Tryz.prog 45 = some true := by kernel_rfl
@[go_sem] theorem F.ze45 : zeroOf Tryz.prog 45 = some [.int .i64 0, .int .i64 0, .int .i64 0] := by kernel_rfl
@[go_sem] theorem F.sd45 : sized Tryz.prog 45 = true := by kernel_rfl
@[go_sem] theorem F.of45_0 : offOf Tryz.prog 45 0 = some 0 := by kernel_rfl
@[go_sem] theorem F.pl45_0 : placeOf Tryz.prog 45 0 = some (0, 1) := by kernel_rfl
@[go_sem] theorem F.of45_1 : offOf Tryz.prog 45 1 = some 1 := by kernel_rfl
@[go_sem] theorem F.pl45_1 : placeOf Tryz.prog 45 1 = some (1, 1) := by kernel_rfl
@[go_sem] theorem F.of45_2 : offOf Tryz.prog 45 2 = some 2 := by kernel_rfl
@[go_sem] theorem F.pl45_2 : placeOf Tryz.prog 45 2 = some (2, 1) := by kernel_rfl
@[go_sem] theorem F.eq45 : structEq Tryz.prog 45 = some [1, 1, 1] := by kernel_rfl
@[go_sem] theorem F.sz47 : szOf Tryz.prog 47 = some 4 := by kernel_rfl
@[go_sem] theorem F.ag47 : aggOf Tryz.prog 47 = some true := by kernel_rfl
@[go_sem] theorem F.ze47 : zeroOf Tryz.prog 47 = some [.string (str []), .int .i64 0, .int .i64 0, .int .i64 0] := by kernel_rfl
@[go_sem] theorem F.sd47 : sized Tryz.prog 47 = true := by kernel_rfl
@[go_sem] theorem F.of47_0 : offOf Tryz.prog 47 0 = some 0 := by kernel_rfl
@[go_sem] theorem F.pl47_0 : placeOf Tryz.prog 47 0 = some (0, 1) := by kernel_rfl
@[go_sem] theorem F.of47_1 : offOf Tryz.prog 47 1 = some 1 := by kernel_rfl
@[go_sem] theorem F.pl47_1 : placeOf Tryz.prog 47 1 = some (1, 1) := by kernel_rfl
@[go_sem] theorem F.of47_2 : offOf Tryz.prog 47 2 = some 2 := by kernel_rfl
@[go_sem] theorem F.pl47_2 : placeOf Tryz.prog 47 2 = some (2, 1) := by kernel_rfl
@[go_sem] theorem F.of47_3 : offOf Tryz.prog 47 3 = some 3 := by kernel_rfl
@[go_sem] theorem F.pl47_3 : placeOf Tryz.prog 47 3 = some (3, 1) := by kernel_rfl
@[go_sem] theorem F.eq47 : structEq Tryz.prog 47 = some [2, 1, 1, 1] := by kernel_rfl
@[go_sem] theorem F.sz48 : szOf Tryz.prog 48 = some 1 := by kernel_rfl
@[go_sem] theorem F.ag48 : aggOf Tryz.prog 48 = some false := by kernel_rfl
@[go_sem] theorem F.ze48 : zeroOf Tryz.prog 48 = some [.slice none 0 0] := by kernel_rfl
@[go_sem] theorem F.el48 : elemOfSlice Tryz.prog 48 = some (91, 5) := by kernel_rfl
@[go_sem] theorem F.ro48 : rowInf Tryz.prog 48 = some (91, 5, 40) := by kernel_rfl
@[go_sem] theorem F.sl48 : isSliceT Tryz.prog 48 = true := by kernel_rfl
@[go_sem] theorem F.by48 : isBytesT Tryz.prog 48 = false := by kernel_rfl
@[go_sem] theorem F.st48 : strT Tryz.prog 48 = false := by kernel_rfl
@[go_sem] theorem F.sz49 : szOf Tryz.prog 49 = some 1 := by kernel_rfl
@[go_sem] theorem F.ag49 : aggOf Tryz.prog 49 = some false := by kernel_rfl
@[go_sem] theorem F.ze49 : zeroOf Tryz.prog 49 = some [.slice none 0 0] := by kernel_rfl
@[go_sem] theorem F.el49 : elemOfSlice Tryz.prog 49 = some (93, 7) := by kernel_rfl
@[go_sem] theorem F.ro49 : rowInf Tryz.prog 49 = some (93, 7, 56) := by kernel_rfl
@[go_sem] theorem F.sl49 : isSliceT Tryz.prog 49 = true := by kernel_rfl
@[go_sem] theorem F.by49 : isBytesT Tryz.prog 49 = false := by kernel_rfl
@[go_sem] theorem F.st49 : strT Tryz.prog 49 = false := by kernel_rfl
@[go_sem] theorem F.sz51 : szOf Tryz.prog 51 = some 8 := by kernel_rfl
@[go_sem] theorem F.ag51 : aggOf Tryz.prog 51 = some true := by kernel_rfl
@[go_sem] theorem F.ze51 : zeroOf Tryz.prog 51 = some [.string (str []), .int .i64 0, .int .i64 0, .int .i64 0, .slice none 0 0, .slice none 0 0, .slice none 0 0, .int .i64 0] := by kernel_rfl
@[go_sem] theorem F.sd51 : sized Tryz.prog 51 = true := by kernel_rfl
@[go_sem] theorem F.of51_0 : offOf Tryz.prog 51 0 = some 0 := by kernel_rfl
@[go_sem] theorem F.pl51_0 : placeOf Tryz.prog 51 0 = some (0, 4) := by kernel_rfl
@[go_sem] theorem F.of51_1 : offOf Tryz.prog 51 1 = some 4 := by kernel_rfl
@[go_sem] theorem F.pl51_1 : placeOf Tryz.prog 51 1 = some (4, 1) := by kernel_rfl
@[go_sem] theorem F.of51_2 : offOf Tryz.prog 51 2 = some 5 := by kernel_rfl
@[go_sem] theorem F.pl51_2 : placeOf Tryz.prog 51 2 = some (5, 1) := by kernel_rfl
@[go_sem] theorem F.of51_3 : offOf Tryz.prog 51 3 = some 6 := by kernel_rfl
@[go_sem] theorem F.pl51_3 : placeOf Tryz.prog 51 3 = some (6, 1) := by kernel_rfl
@[go_sem] theorem F.of51_4 : offOf Tryz.prog 51 4 = some 7 := by kernel_rfl
@[go_sem] theorem F.pl51_4 : placeOf Tryz.prog 51 4 = some (7, 1) := by kernel_rfl
@[go_sem] theorem F.sz55 : szOf Tryz.prog 55 = some 2 := by kernel_rfl
@[go_sem] theorem F.ag55 : aggOf Tryz.prog 55 = some true := by kernel_rfl
@[go_sem] theorem F.ze55 : zeroOf Tryz.prog 55 = some [.int .i64 0, .int .i64 0] := by kernel_rfl
@[go_sem] theorem F.sd55 : sized Tryz.prog 55 = true := by kernel_rfl
@[go_sem] theorem F.of55_0 : offOf Tryz.prog 55 0 = some 0 := by kernel_rfl
@[go_sem] theorem F.pl55_0 : placeOf Tryz.prog 55 0 = some (0, 1) := by kernel_rfl
@[go_sem] theorem F.of55_1 : offOf Tryz.prog 55 1 = some 1 := by kernel_rfl
@[go_sem] theorem F.pl55_1 : placeOf Tryz.prog 55 1 = some (1, 1) := by kernel_rfl
@[go_sem] theorem F.eq55 : structEq Tryz.prog 55 = some [1, 1] := by kernel_rfl
@[go_sem] theorem F.sz57 : szOf Tryz.prog 57 = some 3 := by kernel_rfl
@[go_sem] theorem F.ag57 : aggOf Tryz.prog 57 = some true := by kernel_rfl
@[go_sem] theorem F.ze57 : zeroOf Tryz.prog 57 = some [.string (str []), .int .i64 0, .int .i64 0] := by kernel_rfl
@[go_sem] theorem F.sd57 : sized Tryz.prog 57 = true := by kernel_rfl
@[go_sem] theorem F.of57_0 : offOf Tryz.prog 57 0 = some 0 := by kernel_rfl
@[go_sem] theorem F.pl57_0 : placeOf Tryz.prog 57 0 = some (0, 1) := by kernel_rfl
@[go_sem] theorem F.of57_1 : offOf Tryz.prog 57 1 = some 1 := by kernel_rfl
@[go_sem] theorem F.pl57_1 : placeOf Tryz.prog 57 1 = some (1, 2) := by kernel_rfl
@[go_sem] theorem F.eq57 : structEq Tryz.prog 57 = some [2, 1, 1] := by kernel_rfl
@[go_sem] theorem F.sz58 : szOf Tryz.prog 58 = some 1 := by kernel_rfl
@[go_sem] theorem F.ag58 : aggOf Tryz.prog 58 = some false := by kernel_rfl
@[go_sem] theorem F.ze58 : zeroOf Tryz.prog 58 = some [.slice none 0 0] := by kernel_rfl
@[go_sem] theorem F.el58 : elemOfSlice Tryz.prog 58 = some (60, 5) := by kernel_rfl
@[go_sem] theorem F.ro58 : rowInf Tryz.prog 58 = some (60, 5, 64) := by kernel_rfl
@[go_sem] theorem F.sl58 : isSliceT Tryz.prog 58 = true := by kernel_rfl
@[go_sem] theorem F.by58 : isBytesT Tryz.prog 58 = false := by kernel_rfl
@[go_sem] theorem F.st58 : strT Tryz.prog 58 = false := by kernel_rfl
@[go_sem] theorem F.sz60 : szOf Tryz.prog 60 = some 5 := by kernel_rfl
@[go_sem] theorem F.ag60 : aggOf Tryz.prog 60 = some true := by kernel_rfl
@[go_sem] theorem F.ze60 : zeroOf Tryz.prog 60 = some [.int .i64 0, .string (str []), .int .i64 0, .int .i64 0, .slice none 0 0] := by kernel_rfl
@[go_sem] theorem F.sd60 : sized Tryz.prog 60 = true := by kernel_rfl
@[go_sem] theorem F.of60_0 : offOf Tryz.prog 60 0 = some 0 := by kernel_rfl
@[go_sem] theorem F.pl60_0 : placeOf Tryz.prog 60 0 = some (0, 1) := by kernel_rfl
@[go_sem] theorem F.of60_1 : offOf Tryz.prog 60 1 = some 1 := by kernel_rfl
@[go_sem] theorem F.pl60_1 : placeOf Tryz.prog 60 1 = some (1, 3) := by kernel_rfl
@[go_sem] theorem F.of60_2 : offOf Tryz.prog 60 2 = some 4 := by kernel_rfl
@[go_sem] theorem F.pl60_2 : placeOf Tryz.prog 60 2 = some (4, 1) := by kernel_rfl
@[go_sem] theorem F.sz62 : szOf Tryz.prog 62 = some 9 := by kernel_rfl
@[go_sem] theorem F.ag62 : aggOf Tryz.prog 62 = some true := by kernel_rfl
@[go_sem] theorem F.ze62 : zeroOf Tryz.prog 62 = some [.int .i64 0, .int .i64 0, .int .i64 0, .int .i64 0, .string (str []), .int .i64 0, .int .i64 0, .slice none 0 0, .int .i64 0] := by kernel_rfl
@[go_sem] theorem F.sd62 : sized Tryz.prog 62 = true := by kernel_rfl
@[go_sem] theorem F.of62_0 : offOf Tryz.prog 62 0 = some 0 := by kernel_rfl
@[go_sem] theorem F.pl62_0 : placeOf Tryz.prog 62 0 = some (0, 3) := by kernel_rfl
@[go_sem] theorem F.of62_1 : offOf Tryz.prog 62 1 = some 3 := by kernel_rfl
@[go_sem] theorem F.pl62_1 : placeOf Tryz.prog 62 1 = some (3, 5) := by kernel_rfl
@[go_sem] theorem F.of62_2 : offOf Tryz.prog 62 2 = some 8 := by kernel_rfl
@[go_sem] theorem F.pl62_2 : placeOf Tryz.prog 62 2 = some (8, 1) := by kernel_rfl
@[go_sem] theorem F.sz65 : szOf Tryz.prog 65 = some 6 := by kernel_rfl
@[go_sem] theorem F.ag65 : aggOf Tryz.prog 65 = some true := by kernel_rfl
@[go_sem] theorem F.ze65 : zeroOf Tryz.prog 65 = some [.int .i64 0, .int .i64 0, .int .i64 0, .string (str []), .int .i64 0, .slice none 0 0] := by kernel_rfl
@[go_sem] theorem F.sd65 : sized Tryz.prog 65 = true := by kernel_rfl
@[go_sem] theorem F.of65_0 : offOf Tryz.prog 65 0 = some 0 := by kernel_rfl
@[go_sem] theorem F.pl65_0 : placeOf Tryz.prog 65 0 = some (0, 3) := by kernel_rfl
@[go_sem] theorem F.of65_1 : offOf Tryz.prog 65 1 = some 3 := by kernel_rfl
@[go_sem] theorem F.pl65_1 : placeOf Tryz.prog 65 1 = some (3, 1) := by kernel_rfl
@[go_sem] theorem F.of65_2 : offOf Tryz.prog 65 2 = some 4 := by kernel_rfl
@[go_sem] theorem F.pl65_2 : placeOf Tryz.prog 65 2 = some (4, 1) := by kernel_rfl
@[go_sem] theorem F.of65_3 : offOf Tryz.prog 65 3 = some 5 := by kernel_rfl
@[go_sem] theorem F.pl65_3 : placeOf Tryz.prog 65 3 = some (5, 1) := by kernel_rfl
@[go_sem] theorem F.sz76 : szOf Tryz.prog 76 = some 1 := by kernel_rfl
@[go_sem] theorem F.ag76 : aggOf Tryz.prog 76 = some false := by kernel_rfl
@[go_sem] theorem F.ze76 : zeroOf Tryz.prog 76 = some [.map none] := by kernel_rfl
@[go_sem] theorem F.mp76 : mapT Tryz.prog 76 = some (78, true, [1, 1, 1, 2], 4) := by kernel_rfl
@[go_sem] theorem F.sz78 : szOf Tryz.prog 78 = some 4 := by kernel_rfl
@[go_sem] theorem F.ag78 : aggOf Tryz.prog 78 = some true := by kernel_rfl
@[go_sem] theorem F.ze78 : zeroOf Tryz.prog 78 = some [.int .i64 0, .int .i64 0, .int .i64 0, .string (str [])] := by kernel_rfl
@[go_sem] theorem F.sd78 : sized Tryz.prog 78 = true := by kernel_rfl
@[go_sem] theorem F.of78_0 : offOf Tryz.prog 78 0 = some 0 := by kernel_rfl
@[go_sem] theorem F.pl78_0 : placeOf Tryz.prog 78 0 = some (0, 3) := by kernel_rfl
@[go_sem] theorem F.of78_1 : offOf Tryz.prog 78 1 = some 3 := by kernel_rfl
@[go_sem] theorem F.pl78_1 : placeOf Tryz.prog 78 1 = some (3, 1) := by kernel_rfl
@[go_sem] theorem F.eq78 : structEq Tryz.prog 78 = some [1, 1, 1, 2] := by kernel_rfl
@[go_sem] theorem F.sz82 : szOf Tryz.prog 82 = some 1 := by kernel_rfl
@[go_sem] theorem F.ag82 : aggOf Tryz.prog 82 = some false := by kernel_rfl
@[go_sem] theorem F.ze82 : zeroOf Tryz.prog 82 = some [.slice none 0 0] := by kernel_rfl
@[go_sem] theorem F.el82 : elemOfSlice Tryz.prog 82 = some (4, 1) := by kernel_rfl
@[go_sem] theorem F.ro82 : rowInf Tryz.prog 82 = some (4, 1, 1) := by kernel_rfl
@[go_sem] theorem F.sl82 : isSliceT Tryz.prog 82 = true := by kernel_rfl
@[go_sem] theorem F.by82 : isBytesT Tryz.prog 82 = false := by kernel_rfl
@[go_sem] theorem F.st82 : strT Tryz.prog 82 = false := by kernel_rfl
@[go_sem] theorem F.sz83 : szOf Tryz.prog 83 = some 1 := by kernel_rfl
@[go_sem] theorem F.ag83 : aggOf Tryz.prog 83 = some false := by kernel_rfl
@[go_sem] theorem F.ze83 : zeroOf Tryz.prog 83 = some [.slice none 0 0] := by kernel_rfl
@[go_sem] theorem F.el83 : elemOfSlice Tryz.prog 83 = some (57, 3) := by kernel_rfl
@[go_sem] theorem F.ro83 : rowInf Tryz.prog 83 = some (57, 3, 32) := by kernel_rfl
@[go_sem] theorem F.sl83 : isSliceT Tryz.prog 83 = true := by kernel_rfl
@[go_sem] theorem F.by83 : isBytesT Tryz.prog 83 = false := by kernel_rfl
@[go_sem] theorem F.st83 : strT Tryz.prog 83 = false := by kernel_rfl
@[go_sem] theorem F.sz91 : szOf Tryz.prog 91 = some 5 := by kernel_rfl
@[go_sem] theorem F.ag91 : aggOf Tryz.prog 91 = some true := by kernel_rfl
@[go_sem] theorem F.ze91 : zeroOf Tryz.prog 91 = some [.int .i64 0, .int .i64 0, .int .i64 0, .int .i64 0, .int .i64 0] := by kernel_rfl
@[go_sem] theorem F.sd91 : sized Tryz.prog 91 = true := by kernel_rfl
@[go_sem] theorem F.of91_0 : offOf Tryz.prog 91 0 = some 0 := by kernel_rfl
@[go_sem] theorem F.pl91_0 : placeOf Tryz.prog 91 0 = some (0, 3) := by kernel_rfl
@[go_sem] theorem F.of91_1 : offOf Tryz.prog 91 1 = some 3 := by kernel_rfl
@[go_sem] theorem F.pl91_1 : placeOf Tryz.prog 91 1 = some (3, 2) := by kernel_rfl
@[go_sem] theorem F.eq91 : structEq Tryz.prog 91 = some [1, 1, 1, 1, 1] := by kernel_rfl
@[go_sem] theorem F.sz93 : szOf Tryz.prog 93 = some 7 := by kernel_rfl
@[go_sem] theorem F.ag93 : aggOf Tryz.prog 93 = some true := by kernel_rfl
@[go_sem] theorem F.ze93 : zeroOf Tryz.prog 93 = some [.int .i64 0, .int .i64 0, .int .i64 0, .int .i64 0, .int .i64 0, .int .i64 0, .int .i64 0] := by kernel_rfl
@[go_sem] theorem F.sd93 : sized Tryz.prog 93 = true := by kernel_rfl
@[go_sem] theorem F.of93_0 : offOf Tryz.prog 93 0 = some 0 := by kernel_rfl
@[go_sem] theorem F.pl93_0 : placeOf Tryz.prog 93 0 = some (0, 3) := by kernel_rfl
@[go_sem] theorem F.of93_1 : offOf Tryz.prog 93 1 = some 3 := by kernel_rfl
@[go_sem] theorem F.pl93_1 : placeOf Tryz.prog 93 1 = some (3, 2) := by kernel_rfl
@[go_sem] theorem F.of93_2 : offOf Tryz.prog 93 2 = some 5 := by kernel_rfl
@[go_sem] theorem F.pl93_2 : placeOf Tryz.prog 93 2 = some (5, 1) := by kernel_rfl
@[go_sem] theorem F.of93_3 : offOf Tryz.prog 93 3 = some 6 := by kernel_rfl
@[go_sem] theorem F.pl93_3 : placeOf Tryz.prog 93 3 = some (6, 1) := by kernel_rfl
@[go_sem] theorem F.eq93 : structEq Tryz.prog 93 = some [1, 1, 1, 1, 1, 1, 1] := by kernel_rfl
@[go_sem] theorem F.sz100 : szOf Tryz.prog 100 = some 1 := by kernel_rfl
@[go_sem] theorem F.ag100 : aggOf Tryz.prog 100 = some false := by kernel_rfl
@[go_sem] theorem F.ze100 : zeroOf Tryz.prog 100 = some [.slice none 0 0] := by kernel_rfl
@[go_sem] theorem F.el100 : elemOfSlice Tryz.prog 100 = some (105, 3) := by kernel_rfl
@[go_sem] theorem F.ro100 : rowInf Tryz.prog 100 = some (105, 3, 24) := by kernel_rfl
@[go_sem] theorem F.sl100 : isSliceT Tryz.prog 100 = true := by kernel_rfl
@[go_sem] theorem F.by100 : isBytesT Tryz.prog 100 = false := by kernel_rfl
@[go_sem] theorem F.st100 : strT Tryz.prog 100 = false := by kernel_rfl
@[go_sem] theorem F.sz102 : szOf Tryz.prog 102 = some 1 := by kernel_rfl
@[go_sem] theorem F.ag102 : aggOf Tryz.prog 102 = some false := by kernel_rfl
@[go_sem] theorem F.ze102 : zeroOf Tryz.prog 102 = some [.nilFunc] := by kernel_rfl
@[go_sem] theorem F.sz103 : szOf Tryz.prog 103 = some 1 := by kernel_rfl
@[go_sem] theorem F.ag103 : aggOf Tryz.prog 103 = some false := by kernel_rfl
@[go_sem] theorem F.ze103 : zeroOf Tryz.prog 103 = some [.nilFunc] := by kernel_rfl
@[go_sem] theorem F.sz105 : szOf Tryz.prog 105 = some 3 := by kernel_rfl
@[go_sem] theorem F.ag105 : aggOf Tryz.prog 105 = some true := by kernel_rfl
@[go_sem] theorem F.ze105 : zeroOf Tryz.prog 105 = some [.int .i64 0, .nilFunc, .nilFunc] := by kernel_rfl
@[go_sem] theorem F.sd105 : sized Tryz.prog 105 = true := by kernel_rfl
@[go_sem] theorem F.of105_0 : offOf Tryz.prog 105 0 = some 0 := by kernel_rfl
@[go_sem] theorem F.pl105_0 : placeOf Tryz.prog 105 0 = some (0, 1) := by kernel_rfl
@[go_sem] theorem F.of105_1 : offOf Tryz.prog 105 1 = some 1 := by kernel_rfl
@[go_sem] theorem F.pl105_1 : placeOf Tryz.prog 105 1 = some (1, 1) := by kernel_rfl
@[go_sem] theorem F.of105_2 : offOf Tryz.prog 105 2 = some 2 := by kernel_rfl
@[go_sem] theorem F.pl105_2 : placeOf Tryz.prog 105 2 = some (2, 1) := by kernel_rfl
@[go_sem] theorem F.sz141 : szOf Tryz.prog 141 = some 1 := by kernel_rfl
@[go_sem] theorem F.ag141 : aggOf Tryz.prog 141 = some false := by kernel_rfl
@[go_sem] theorem F.ze141 : zeroOf Tryz.prog 141 = some [.slice none 0 0] := by kernel_rfl
@[go_sem] theorem F.el141 : elemOfSlice Tryz.prog 141 = some (55, 2) := by kernel_rfl
@[go_sem] theorem F.ro141 : rowInf Tryz.prog 141 = some (55, 2, 16) := by kernel_rfl
@[go_sem] theorem F.sl141 : isSliceT Tryz.prog 141 = true := by kernel_rfl
@[go_sem] theorem F.by141 : isBytesT Tryz.prog 141 = false := by kernel_rfl
@[go_sem] theorem F.st141 : strT Tryz.prog 141 = false := by kernel_rfl
@[go_sem] theorem F.sz148 : szOf Tryz.prog 148 = some 3 := by kernel_rfl
@[go_sem] theorem F.ag148 : aggOf Tryz.prog 148 = some true := by kernel_rfl
@[go_sem] theorem F.ze148 : zeroOf Tryz.prog 148 = some [.int .i64 0, .int .i64 0, .int .i64 0] := by kernel_rfl
@[go_sem] theorem F.el148 : elemOfSlice Tryz.prog 148 = none := by kernel_rfl
@[go_sem] theorem F.ar148 : elemOfArray Tryz.prog 148 = some (3, 1) := by kernel_rfl
@[go_sem] theorem F.ei148 : elemInf Tryz.prog 148 = some (3, 1, false) := by kernel_rfl
@[go_sem] theorem F.sd148 : sized Tryz.prog 148 = true := by kernel_rfl
@[go_sem] theorem F.pl148_0 : placeOf Tryz.prog 148 0 = some (0, 1) := by kernel_rfl
@[go_sem] theorem F.pl148_1 : placeOf Tryz.prog 148 1 = some (1, 1) := by kernel_rfl
@[go_sem] theorem F.pl148_2 : placeOf Tryz.prog 148 2 = some (2, 1) := by kernel_rfl
@[go_sem] theorem F.sz154 : szOf Tryz.prog 154 = some 2 := by kernel_rfl
@[go_sem] theorem F.ag154 : aggOf Tryz.prog 154 = some true := by kernel_rfl
@[go_sem] theorem F.ze154 : zeroOf Tryz.prog 154 = some [.slice none 0 0, .slice none 0 0] := by kernel_rfl
@[go_sem] theorem F.sd154 : sized Tryz.prog 154 = true := by kernel_rfl
@[go_sem] theorem F.of154_0 : offOf Tryz.prog 154 0 = some 0 := by kernel_rfl
@[go_sem] theorem F.pl154_0 : placeOf Tryz.prog 154 0 = some (0, 1) := by kernel_rfl
@[go_sem] theorem F.of154_1 : offOf Tryz.prog 154 1 = some 1 := by kernel_rfl
@[go_sem] theorem F.pl154_1 : placeOf Tryz.prog 154 1 = some (1, 1) := by kernel_rfl
@[go_sem] theorem F.sz204 : szOf Tryz.prog 204 = some 1 := by kernel_rfl
@[go_sem] theorem F.ag204 : aggOf Tryz.prog 204 = some false := by kernel_rfl
@[go_sem] theorem F.ze204 : zeroOf Tryz.prog 204 = some [.slice none 0 0] := by kernel_rfl
@[go_sem] theorem F.el204 : elemOfSlice Tryz.prog 204 = some (49, 1) := by kernel_rfl
@[go_sem] theorem F.ro204 : rowInf Tryz.prog 204 = some (49, 1, 24) := by kernel_rfl
@[go_sem] theorem F.sl204 : isSliceT Tryz.prog 204 = true := by kernel_rfl
@[go_sem] theorem F.by204 : isBytesT Tryz.prog 204 = false := by kernel_rfl
@[go_sem] theorem F.st204 : strT Tryz.prog 204 = false := by kernel_rfl
@[go_sem] theorem F.sz206 : szOf Tryz.prog 206 = some 6 := by kernel_rfl
@[go_sem] theorem F.ag206 : aggOf Tryz.prog 206 = some true := by kernel_rfl
@[go_sem] theorem F.ze206 : zeroOf Tryz.prog 206 = some [.bool false, .bool false, .bool false, .bool false, .bool false, .bool false] := by kernel_rfl
@[go_sem] theorem F.el206 : elemOfSlice Tryz.prog 206 = none := by kernel_rfl
@[go_sem] theorem F.ar206 : elemOfArray Tryz.prog 206 = some (6, 1) := by kernel_rfl
@[go_sem] theorem F.ei206 : elemInf Tryz.prog 206 = some (6, 1, false) := by kernel_rfl
@[go_sem] theorem F.sd206 : sized Tryz.prog 206 = true := by kernel_rfl
@[go_sem] theorem F.pl206_0 : placeOf Tryz.prog 206 0 = some (0, 1) := by kernel_rfl
@[go_sem] theorem F.pl206_1 : placeOf Tryz.prog 206 1 = some (1, 1) := by kernel_rfl
@[go_sem] theorem F.pl206_2 : placeOf Tryz.prog 206 2 = some (2, 1) := by kernel_rfl
@[go_sem] theorem F.pl206_3 : placeOf Tryz.prog 206 3 = some (3, 1) := by kernel_rfl
@[go_sem] theorem F.pl206_4 : placeOf Tryz.prog 206 4 = some (4, 1) := by kernel_rfl
@[go_sem] theorem F.pl206_5 : placeOf Tryz.prog 206 5 = some (5, 1) := by kernel_rfl
@[go_sem] theorem F.sz210 : szOf Tryz.prog 210 = some 1 := by kernel_rfl
@[go_sem] theorem F.ag210 : aggOf Tryz.prog 210 = some false := by kernel_rfl
@[go_sem] theorem F.ze210 : zeroOf Tryz.prog 210 = some [.slice none 0 0] := by kernel_rfl
@[go_sem] theorem F.el210 : elemOfSlice Tryz.prog 210 = some (1, 1) := by kernel_rfl
@[go_sem] theorem F.ro210 : rowInf Tryz.prog 210 = some (1, 1, 8) := by kernel_rfl
@[go_sem] theorem F.sl210 : isSliceT Tryz.prog 210 = true := by kernel_rfl
@[go_sem] theorem F.by210 : isBytesT Tryz.prog 210 = false := by kernel_rfl
@[go_sem] theorem F.st210 : strT Tryz.prog 210 = false := by kernel_rfl
@[go_sem] theorem F.sz217 : szOf Tryz.prog 217 = some 5 := by kernel_rfl
@[go_sem] theorem F.ag217 : aggOf Tryz.prog 217 = some true := by kernel_rfl
@[go_sem] theorem F.ze217 : zeroOf Tryz.prog 217 = some [.bool false, .bool false, .bool false, .bool false, .bool false] := by kernel_rfl
@[go_sem] theorem F.el217 : elemOfSlice Tryz.prog 217 = none := by kernel_rfl
@[go_sem] theorem F.ar217 : elemOfArray Tryz.prog 217 = some (5, 1) := by kernel_rfl
@[go_sem] theorem F.ei217 : elemInf Tryz.prog 217 = some (5, 1, false) := by kernel_rfl
@[go_sem] theorem F.sd217 : sized Tryz.prog 217 = true := by kernel_rfl
@[go_sem] theorem F.pl217_0 : placeOf Tryz.prog 217 0 = some (0, 1) := by kernel_rfl
@[go_sem] theorem F.pl217_1 : placeOf Tryz.prog 217 1 = some (1, 1) := by kernel_rfl
@[go_sem] theorem F.pl217_2 : placeOf Tryz.prog 217 2 = some (2, 1) := by kernel_rfl
@[go_sem] theorem F.pl217_3 : placeOf Tryz.prog 217 3 = some (3, 1) := by kernel_rfl
@[go_sem] theorem F.pl217_4 : placeOf Tryz.prog 217 4 = some (4, 1) := by kernel_rfl
@[go_sem] theorem F.sz218 : szOf Tryz.prog 218 = some 25 := by kernel_rfl
@[go_sem] theorem F.ag218 : aggOf Tryz.prog 218 = some true := by kernel_rfl
@[go_sem] theorem F.ze218 : zeroOf Tryz.prog 218 = some [.bool false, .bool false, .bool false, .bool false, .bool false, .bool false, .bool false, .bool false, .bool false, .bool false, .bool false, .bool false, .bool false, .bool false, .bool false, .bool false, .bool false, .bool false, .bool false, .bool false, .bool false, .bool false, .bool false, .bool false, .bool false] := by kernel_rfl
@[go_sem] theorem F.el218 : elemOfSlice Tryz.prog 218 = none := by kernel_rfl
@[go_sem] theorem F.ar218 : elemOfArray Tryz.prog 218 = some (5, 5) := by kernel_rfl
@[go_sem] theorem F.ei218 : elemInf Tryz.prog 218 = some (5, 5, true) := by kernel_rfl
@[go_sem] theorem F.sd218 : sized Tryz.prog 218 = true := by kernel_rfl
@[go_sem] theorem F.pl218_0 : placeOf Tryz.prog 218 0 = some (0, 5) := by kernel_rfl
@[go_sem] theorem F.pl218_1 : placeOf Tryz.prog 218 1 = some (5, 5) := by kernel_rfl
@[go_sem] theorem F.pl218_2 : placeOf Tryz.prog 218 2 = some (10, 5) := by kernel_rfl
@[go_sem] theorem F.pl218_3 : placeOf Tryz.prog 218 3 = some (15, 5) := by kernel_rfl
@[go_sem] theorem F.pl218_4 : placeOf Tryz.prog 218 4 = some (20, 5) := by kernel_rfl
end Go.Rd
open Go Go.Abs Go.Proofs
set_option maxRecDepth 100000
namespace Go.Rd
def togL : List Bool := [true, true, true, true, false, true, true, false, false, false, true, false, true, false, false, true, false, false, false, false, false, false, false, false, false]
def boolsC (l : List Bool) : List AV := l.map fun b => .v (.bool b)
@[go_sem] theorem bools_kill (S T : List Nat) (l : List Bool) : killL S T (boolsC l) = boolsC l := by
  induction l with
  | nil => rfl
  | cons x l ih => simp only [boolsC, List.map_cons, killL, AV.kill] at ih ⊢; rw [ih]
@[go_sem] theorem bools_frz (S : List Nat) (l : List Bool) : freezeL S (boolsC l) = boolsC l := by
  induction l with
  | nil => rfl
  | cons x l ih => simp only [boolsC, List.map_cons, freezeL, AV.freeze] at ih ⊢; rw [ih]
@[go_sem] theorem bools_ren (ρ : Rn) (l : List Bool) : renL ρ (boolsC l) = boolsC l := by
  induction l with
  | nil => rfl
  | cons x l ih => simp only [boolsC, List.map_cons, renL, AV.ren] at ih ⊢; rw [ih]
@[go_sem] theorem bools_len (l : List Bool) : (boolsC l).length = l.length := by simp [boolsC]
@[go_sem] theorem bools_ok (l : List Bool) : okCells (boolsC l) = true := by
  induction l with
  | nil => rfl
  | cons x l ih => simp only [boolsC, List.map_cons, okCells, okCell, Value.oneCell'] at ih ⊢; rw [ih]; rfl
theorem bools_one (l : List Bool) (k : Nat) (h : k < l.length) : ((boolsC l).drop k).take 1 = [.v (.bool (l.getD k false))] := by
  rw [List.drop_eq_getElem_cons (by simpa [boolsC] using h)]
  simp [boolsC, List.getD, h]
def tog : List AV := boolsC togL
noncomputable abbrev C0 : Ctx := ⟨Tryz.prog, fun i => if i = 0 then some tog else none⟩
@[go_sem] theorem ev_g0 (st : St) : ev C0 st (.global 0) = .ep .no 0 tog 0 := rfl
def between (n a b : Int) : Bool := decide (a ≤ n) && decide (n ≤ b)
theorem f117_ok (n a b : Int) : FnOK C0 117 [I n, I a, I b] [] (B (between n a b)) [] := by
  refine FnOK.intro (fn := Tryz.f117) (c := Tryz.f117.body.getD .skip) (by kernel_rfl) (by kernel_rfl) (by kernel_rfl) (by kernel_rfl) (by simp [Tryz.f117]) (by simp [names]) ?_
  unfold Tryz.f117
  simp (disch := omega) only [go_sem]
  refine ⟨fun h => ?_, fun h => ?_⟩
  · refine ret_mk ⟨[], [], []⟩ _ (by (try simp (disch := omega) only [go_sem, resVs, resV]) <;> rfl) ⟨rfl, rfl⟩ (by simp) ?_ trivial
    simp (disch := omega) only [go_sem]
    exact .eq (by simp [between, h])
  · refine ret_mk ⟨[], [], []⟩ _ (by (try simp (disch := omega) only [go_sem, resVs, resV]) <;> rfl) ⟨rfl, rfl⟩ (by simp) ?_ trivial
    simp (disch := omega) only [go_sem]
    exact .eq (by simp [between, h])
def Proc.ok (p : Proc) : Bool := between p.site 0 3 && between p.inc 1 99 && between p.num 1 999
theorem f69_ok (p : Proc) : FnOK C0 69 [.agg p.c] [] (B p.ok) [] := by
  refine FnOK.intro (fn := Tryz.f69) (c := Tryz.f69.body.getD .skip) (by kernel_rfl) (by kernel_rfl) (by kernel_rfl) (by kernel_rfl) (by simp [Tryz.f69]) (by simp [names]) ?_
  unfold Tryz.f69
  simp (disch := omega) only [go_sem]
  refine call_pure (f117_ok p.site 0 3) (by simp (disch := omega) only [go_sem]) rfl ?_
  simp (disch := omega) only [go_sem]
  refine ⟨fun h => ?_, fun h => ?_⟩
  · refine call_pure (f117_ok p.inc 1 99) (by simp (disch := omega) only [go_sem]) rfl ?_
    simp (disch := omega) only [go_sem]
    refine ⟨fun h2 => ?_, fun h2 => ?_⟩
    · refine call_pure (f117_ok p.num 1 999) (by simp (disch := omega) only [go_sem]) rfl ?_
      simp (disch := omega) only [go_sem]
      refine ret_mk ⟨[], [], []⟩ _ (by (try simp (disch := omega) only [go_sem, resVs, resV]) <;> rfl) ⟨rfl, rfl⟩ (by simp) ?_ trivial
      simp (disch := omega) only [go_sem]
      exact .eq (by simp [Proc.ok, h, h2])
    · refine ret_mk ⟨[], [], []⟩ _ (by (try simp (disch := omega) only [go_sem, resVs, resV]) <;> rfl) ⟨rfl, rfl⟩ (by simp) ?_ trivial
      simp (disch := omega) only [go_sem]
      exact .eq (by simp [Proc.ok, h, h2])
  · refine ret_mk ⟨[], [], []⟩ _ (by (try simp (disch := omega) only [go_sem, resVs, resV]) <;> rfl) ⟨rfl, rfl⟩ (by simp) ?_ trivial
    simp (disch := omega) only [go_sem]
    exact .eq (by simp [Proc.ok, h])
def cmpP (p q : Proc) : Int := if p.site < q.site then -1 else if q.site < p.site then 1 else if p.inc < q.inc then -1 else if q.inc < p.inc then 1 else if p.num < q.num then -1 else if q.num < p.num then 1 else 0
theorem f120_ok (p q : Proc) : FnOK C0 120 [.agg p.c, .agg q.c] [] (I (cmpP p q)) [] := by
  refine FnOK.intro (fn := Tryz.f120) (c := Tryz.f120.body.getD .skip) (by kernel_rfl) (by kernel_rfl) (by kernel_rfl) (by kernel_rfl) (by simp [Tryz.f120]) (by simp [names]) ?_
  unfold Tryz.f120
  simp (disch := omega) only [go_sem]
  refine loop_intro (α := Nat) (fun i => ⟨[(8, I i), (7, .agg p.c), (3, .ptr 192 0)], [(192, q.c)]⟩) (fun i => i ≤ 3 ∧ (1 ≤ i → p.site = q.site) ∧ (2 ≤ i → p.inc = q.inc) ∧ (3 ≤ i → p.num = q.num)) (fun i => 3 - i) 0 (by simp) ?_ ?_
  · exact Imp.weak (by simp (disch := omega) only [go_sem]) (by simp (disch := omega) only [go_sem])
  rintro i ⟨hi, h1, h2, h3⟩ J hJ
  obtain rfl | rfl | rfl | rfl : i = 0 ∨ i = 1 ∨ i = 2 ∨ i = 3 := by omega
  · simp (disch := omega) only [go_sem]
    refine ⟨fun h => ?_, fun h => ⟨fun h' => ?_, fun h' => ?_⟩⟩
    · refine ret_mk ⟨[], [], []⟩ _ (by (try simp (disch := omega) only [go_sem, resVs, resV]) <;> rfl) ⟨rfl, rfl⟩ (by simp) ?_ trivial
      simp (disch := omega) only [go_sem]
      exact .eq (by simp at h; simp [cmpP, h])
    · refine ret_mk ⟨[], [], []⟩ _ (by (try simp (disch := omega) only [go_sem, resVs, resV]) <;> rfl) ⟨rfl, rfl⟩ (by simp) ?_ trivial
      simp (disch := omega) only [go_sem]
      exact .eq (by simp at h h'; simp [cmpP, h']; omega)
    · refine hJ _ 1 ⟨by omega, fun _ => by simp at h h'; omega, by omega, by omega⟩ (by omega) (Imp.weak (by simp (disch := omega) only [go_sem]) (by simp (disch := omega) only [go_sem]))
  · simp (disch := omega) only [go_sem]
    refine ⟨fun h => ?_, fun h => ⟨fun h' => ?_, fun h' => ?_⟩⟩
    · refine ret_mk ⟨[], [], []⟩ _ (by (try simp (disch := omega) only [go_sem, resVs, resV]) <;> rfl) ⟨rfl, rfl⟩ (by simp) ?_ trivial
      simp (disch := omega) only [go_sem]
      exact .eq (by simp at h; simp [cmpP, h, h1])
    · refine ret_mk ⟨[], [], []⟩ _ (by (try simp (disch := omega) only [go_sem, resVs, resV]) <;> rfl) ⟨rfl, rfl⟩ (by simp) ?_ trivial
      simp (disch := omega) only [go_sem]
      exact .eq (by simp at h h'; simp [cmpP, h', h1]; omega)
    · refine hJ _ 2 ⟨by omega, fun _ => h1 (by omega), fun _ => by simp at h h'; omega, by omega⟩ (by omega) (Imp.weak (by simp (disch := omega) only [go_sem]) (by simp (disch := omega) only [go_sem]))
  · simp (disch := omega) only [go_sem]
    refine ⟨fun h => ?_, fun h => ⟨fun h' => ?_, fun h' => ?_⟩⟩
    · refine ret_mk ⟨[], [], []⟩ _ (by (try simp (disch := omega) only [go_sem, resVs, resV]) <;> rfl) ⟨rfl, rfl⟩ (by simp) ?_ trivial
      simp (disch := omega) only [go_sem]
      exact .eq (by simp at h; simp [cmpP, h, h1, h2])
    · refine ret_mk ⟨[], [], []⟩ _ (by (try simp (disch := omega) only [go_sem, resVs, resV]) <;> rfl) ⟨rfl, rfl⟩ (by simp) ?_ trivial
      simp (disch := omega) only [go_sem]
      exact .eq (by simp at h h'; simp [cmpP, h', h1, h2]; omega)
    · refine hJ _ 3 ⟨by omega, fun _ => h1 (by omega), fun _ => h2 (by omega), fun _ => by simp at h h'; omega⟩ (by omega) (Imp.weak (by simp (disch := omega) only [go_sem]) (by simp (disch := omega) only [go_sem]))
  · simp (disch := omega) only [go_sem]
    refine ret_mk ⟨[], [], []⟩ _ (by (try simp (disch := omega) only [go_sem, resVs, resV]) <;> rfl) ⟨rfl, rfl⟩ (by simp) ?_ trivial
    simp (disch := omega) only [go_sem]
    exact .eq (by simp [cmpP, h1, h2, h3])
theorem f71_ok (p q : Proc) : FnOK C0 71 [.agg p.c, .agg q.c] [] (I (cmpP p q)) [] := by
  refine FnOK.intro (fn := Tryz.f71) (c := Tryz.f71.body.getD .skip) (by kernel_rfl) (by kernel_rfl) (by kernel_rfl) (by kernel_rfl) (by simp [Tryz.f71]) (by simp [names]) ?_
  unfold Tryz.f71
  simp (disch := omega) only [go_sem]
  refine call_pure (f120_ok p q) (by simp (disch := omega) only [go_sem]) rfl ?_
  simp (disch := omega) only [go_sem]
  refine ret_mk ⟨[], [], []⟩ _ (by (try simp (disch := omega) only [go_sem, resVs, resV]) <;> rfl) ⟨rfl, rfl⟩ (by simp) ?_ trivial
  simp (disch := omega) only [go_sem]
def nextG (g : Int) : Int := if g < 0 ∨ 1073741824 ≤ g then 1 else g + 1
theorem f211_ok (g : Int) : FnOK C0 211 [I g] [] (I (nextG g)) [] := by
  refine FnOK.intro (fn := Tryz.f211) (c := Tryz.f211.body.getD .skip) (by kernel_rfl) (by kernel_rfl) (by kernel_rfl) (by kernel_rfl) (by simp [Tryz.f211]) (by simp [names]) ?_
  unfold Tryz.f211
  simp (disch := omega) only [go_sem]
  repeat' (with_reducible refine And.intro (fun h => ?_) (fun h => ?_))
  all_goals (refine ret_mk ⟨[], [], []⟩ _ (by (try simp (disch := omega) only [go_sem, resVs, resV]) <;> rfl) ⟨rfl, rfl⟩ (by simp) ?_ trivial)
  all_goals (try simp (disch := omega) only [go_sem])
  all_goals (refine .eq ?_)
  all_goals (first | (simp_all [nextG, IntKind.wrap, IntKind.signed, IntKind.bits] <;> omega) | (refine Bool.eq_iff_iff.2 ?_; simp_all [nextG, IntKind.wrap, IntKind.signed, IntKind.bits] <;> omega))
def Amt.zero (a : Amt) : Bool := a.mode == 0 && a.units == 0
theorem f212_ok (a : Amt) : FnOK C0 212 [.agg a.c] [] (B a.zero) [] := by
  refine FnOK.intro (fn := Tryz.f212) (c := Tryz.f212.body.getD .skip) (by kernel_rfl) (by kernel_rfl) (by kernel_rfl) (by kernel_rfl) (by simp [Tryz.f212]) (by simp [names]) ?_
  unfold Tryz.f212
  simp (disch := omega) only [go_sem]
  repeat' (with_reducible refine And.intro (fun h => ?_) (fun h => ?_))
  all_goals (refine ret_mk ⟨[], [], []⟩ _ (by (try simp (disch := omega) only [go_sem, resVs, resV]) <;> rfl) ⟨rfl, rfl⟩ (by simp) ?_ trivial)
  all_goals (try simp (disch := omega) only [go_sem])
  all_goals (refine .eq ?_)
  all_goals (first | (simp_all [Amt.zero] <;> omega) | (refine Bool.eq_iff_iff.2 ?_; simp_all [Amt.zero] <;> omega))
def Res.shaped (r : Res) : Bool := if r.kind = 1 then r.units == 1 else if r.kind = 2 then between r.units 1 8 else false
theorem f196_ok (r : Res) : FnOK C0 196 [.agg r.c] [] (B r.shaped) [] := by
  refine FnOK.intro (fn := Tryz.f196) (c := Tryz.f196.body.getD .skip) (by kernel_rfl) (by kernel_rfl) (by kernel_rfl) (by kernel_rfl) (by simp [Tryz.f196]) (by simp [names]) ?_
  unfold Tryz.f196
  simp (disch := omega) only [go_sem]
  repeat' (with_reducible refine And.intro (fun h => ?_) (fun h => ?_))
  all_goals (refine ret_mk ⟨[], [], []⟩ _ (by (try simp (disch := omega) only [go_sem, resVs, resV]) <;> rfl) ⟨rfl, rfl⟩ (by simp) ?_ trivial)
  all_goals (try simp (disch := omega) only [go_sem])
  all_goals (refine .eq ?_)
  all_goals (first | (simp_all [Res.shaped, between] <;> omega) | (refine Bool.eq_iff_iff.2 ?_; simp_all [Res.shaped, between] <;> omega))
def modeOK (m : Int) : Bool := between m 1 5
theorem f218_ok (m : Int) : FnOK C0 218 [I m] [] (B (modeOK m)) [] := by
  refine FnOK.intro (fn := Tryz.f218) (c := Tryz.f218.body.getD .skip) (by kernel_rfl) (by kernel_rfl) (by kernel_rfl) (by kernel_rfl) (by simp [Tryz.f218]) (by simp [names]) ?_
  unfold Tryz.f218
  simp (disch := omega) only [go_sem]
  repeat' (with_reducible refine And.intro (fun h => ?_) (fun h => ?_))
  all_goals (refine ret_mk ⟨[], [], []⟩ _ (by (try simp (disch := omega) only [go_sem, resVs, resV]) <;> rfl) ⟨rfl, rfl⟩ (by simp) ?_ trivial)
  all_goals (try simp (disch := omega) only [go_sem])
  all_goals (refine .eq ?_)
  all_goals (first | (simp_all [modeOK, between] <;> omega) | (refine Bool.eq_iff_iff.2 ?_; simp_all [modeOK, between] <;> omega))
def Res.fits (r : Res) (a : Amt) : Bool := r.shaped && (if r.kind = 1 then modeOK a.mode && a.units == 0 else a.mode == 0 && between a.units 1 r.units)
theorem f195_ok (r : Res) (a : Amt) : FnOK C0 195 [.agg r.c, .agg a.c] [] (B (r.fits a)) [] := by
  refine FnOK.intro (fn := Tryz.f195) (c := Tryz.f195.body.getD .skip) (by kernel_rfl) (by kernel_rfl) (by kernel_rfl) (by kernel_rfl) (by simp [Tryz.f195]) (by simp [names]) ?_
  unfold Tryz.f195
  simp (disch := omega) only [go_sem]
  repeat' (first
    | (with_reducible refine And.intro (fun h => ?_) (fun h => ?_))
    | ((with_reducible show callB _ _ 196 _ _ _); refine call_pure (f196_ok r) ?_ rfl ?_; (focus (simp (disch := omega) only [go_sem]; done)); try simp (disch := omega) only [go_sem])
    | ((with_reducible show callB _ _ 218 _ _ _); refine call_pure (f218_ok a.mode) ?_ rfl ?_; (focus (simp (disch := omega) only [go_sem]; done)); try simp (disch := omega) only [go_sem]))
  all_goals (refine ret_mk ⟨[], [], []⟩ _ (by (try simp (disch := omega) only [go_sem, resVs, resV]) <;> rfl) ⟨rfl, rfl⟩ (by simp) ?_ trivial)
  all_goals (try simp (disch := omega) only [go_sem])
  all_goals (refine .eq ?_)
  all_goals (first | (simp_all [Res.fits, between] <;> omega) | (refine Bool.eq_iff_iff.2 ?_; simp_all [Res.fits, between] <;> omega))
def Res.permits (r : Res) (a : Amt) : Bool := r.shaped && (a.zero || r.fits a)
theorem f197_ok (r : Res) (a : Amt) : FnOK C0 197 [.agg r.c, .agg a.c] [] (B (r.permits a)) [] := by
  refine FnOK.intro (fn := Tryz.f197) (c := Tryz.f197.body.getD .skip) (by kernel_rfl) (by kernel_rfl) (by kernel_rfl) (by kernel_rfl) (by simp [Tryz.f197]) (by simp [names]) ?_
  unfold Tryz.f197
  simp (disch := omega) only [go_sem]
  repeat' (first
    | (with_reducible refine And.intro (fun h => ?_) (fun h => ?_))
    | ((with_reducible show callB _ _ 196 _ _ _); refine call_pure (f196_ok r) ?_ rfl ?_; (focus (simp (disch := omega) only [go_sem]; done)); try simp (disch := omega) only [go_sem])
    | ((with_reducible show callB _ _ 212 _ _ _); refine call_pure (f212_ok a) ?_ rfl ?_; (focus (simp (disch := omega) only [go_sem]; done)); try simp (disch := omega) only [go_sem])
    | ((with_reducible show callB _ _ 195 _ _ _); refine call_pure (f195_ok r a) ?_ rfl ?_; (focus (simp (disch := omega) only [go_sem]; done)); try simp (disch := omega) only [go_sem]))
  all_goals (refine ret_mk ⟨[], [], []⟩ _ (by (try simp (disch := omega) only [go_sem, resVs, resV]) <;> rfl) ⟨rfl, rfl⟩ (by simp) ?_ trivial)
  all_goals (try simp (disch := omega) only [go_sem])
  all_goals (refine .eq ?_)
  all_goals (first | (simp_all [Res.permits] <;> omega) | (refine Bool.eq_iff_iff.2 ?_; simp_all [Res.permits] <;> omega))
def cov (m : Int) : List Bool := if m = 5 then [false, true, true, true, true, true] else if m = 4 then [false, true, true, true, true, false] else if m = 2 then [false, true, true, false, false, false] else if m = 1 then [false, true, false, false, false, false] else if m = 3 then [false, true, false, true, false, false] else [false, false, false, false, false, false]
theorem f230_ok (m : Int) : FnOK C0 230 [I m] [] (.agg (boolsC (cov m))) [] := by
  refine FnOK.intro (fn := Tryz.f230) (c := Tryz.f230.body.getD .skip) (by kernel_rfl) (by kernel_rfl) (by kernel_rfl) (by kernel_rfl) (by simp [Tryz.f230]) (by simp [names]) ?_
  unfold Tryz.f230
  simp (disch := omega) only [go_sem]
  repeat' (first
    | (with_reducible refine And.intro (fun h => ?_) (fun h => ?_))
)
  all_goals (refine ret_mk ⟨[], [], []⟩ _ (by (try simp (disch := omega) only [go_sem, resVs, resV]) <;> rfl) ⟨rfl, rfl⟩ (by simp) ?_ trivial)
  all_goals (try simp (disch := omega) only [go_sem])
  all_goals (refine .eq ?_)
  all_goals (first | (simp_all [cov, boolsC] <;> omega) | (refine Bool.eq_iff_iff.2 ?_; simp_all [cov, boolsC] <;> omega))
def coversM (a b : Int) : Bool := modeOK a && modeOK b && (cov a).getD b.toNat false
theorem mode_cases {m : Int} (h : modeOK m = true) : m = 1 ∨ m = 2 ∨ m = 3 ∨ m = 4 ∨ m = 5 := by
  simp [modeOK, between] at h
  omega
theorem cov_len (m : Int) : (cov m).length = 6 := by
  unfold cov
  repeat' split
  all_goals rfl
theorem f228_ok (a b : Int) : FnOK C0 228 [I a, I b] [] (B (coversM a b)) [] := by
  refine FnOK.intro (fn := Tryz.f228) (c := Tryz.f228.body.getD .skip) (by kernel_rfl) (by kernel_rfl) (by kernel_rfl) (by kernel_rfl) (by simp [Tryz.f228]) (by simp [names]) ?_
  unfold Tryz.f228
  simp (disch := omega) only [go_sem]
  refine call_pure (f218_ok a) (by simp (disch := omega) only [go_sem]) rfl ?_
  simp (disch := omega) only [go_sem]
  refine And.intro (fun h => ?_) (fun h => ?_)
  · refine call_pure (f218_ok b) (by simp (disch := omega) only [go_sem]) rfl ?_
    simp (disch := omega) only [go_sem]
    refine And.intro (fun h' => ?_) (fun h' => ?_)
    · have h1 := mode_cases h'
      have hb : (b < 6) = True := by simp; omega
      have hb0 : (0 ≤ b) = True := by simp; omega
      have hl := cov_len a
      refine call_pure (y' := .agg (boolsC (cov a))) (f230_ok a) (by simp (disch := omega) only [go_sem]) (by simp (disch := omega) only [go_sem]) ?_
      simp (disch := omega) only [go_sem, hl, bools_one, hb, hb0, Nat.mul_one]
      refine ret_mk ⟨[], [], []⟩ _ (by (try simp (disch := omega) only [go_sem, resVs, resV]) <;> rfl) ⟨rfl, rfl⟩ (by simp) ?_ trivial
      simp (disch := omega) only [go_sem]
      exact .eq (by simp [coversM, h, h'])
    · refine ret_mk ⟨[], [], []⟩ _ (by (try simp (disch := omega) only [go_sem, resVs, resV]) <;> rfl) ⟨rfl, rfl⟩ (by simp) ?_ trivial
      simp (disch := omega) only [go_sem]
      exact .eq (by simp [coversM, h, h'])
  · refine ret_mk ⟨[], [], []⟩ _ (by (try simp (disch := omega) only [go_sem, resVs, resV]) <;> rfl) ⟨rfl, rfl⟩ (by simp) ?_ trivial
    simp (disch := omega) only [go_sem]
    exact .eq (by simp [coversM, h])
def compatM (a b : Int) : Bool := modeOK a && modeOK b && togL.getD ((a - 1) * 5 + (b - 1)).toNat false
theorem f198_ok (a b : Int) : FnOK C0 198 [I a, I b] [] (B (compatM a b)) [] := by
  refine FnOK.intro (fn := Tryz.f198) (c := Tryz.f198.body.getD .skip) (by kernel_rfl) (by kernel_rfl) (by kernel_rfl) (by kernel_rfl) (by simp [Tryz.f198]) (by simp [names]) ?_
  unfold Tryz.f198
  simp (disch := omega) only [go_sem]
  refine call_pure (f218_ok a) (by simp (disch := omega) only [go_sem]) rfl ?_
  simp (disch := omega) only [go_sem]
  refine And.intro (fun h => ?_) (fun h => ?_)
  · refine call_pure (f218_ok b) (by simp (disch := omega) only [go_sem]) rfl ?_
    simp (disch := omega) only [go_sem]
    refine And.intro (fun h' => ?_) (fun h' => ?_)
    · have h1 := mode_cases h
      have h2 := mode_cases h'
      have ha : (a - 1 < 5) = True := by simp; omega
      have ha0 : (0 ≤ a - 1) = True := by simp; omega
      have hb : (b - 1 < 5) = True := by simp; omega
      have hb0 : (0 ≤ b - 1) = True := by simp; omega
      have hl : togL.length = 25 := rfl
      have hk : ((a - 1) * 5 + (b - 1)).toNat = 0 + (a - 1).toNat * 5 + (b - 1).toNat * 1 := by omega
      simp (disch := omega) only [go_sem, tog, hl, bools_one, ha, ha0, hb, hb0, Nat.mul_one]
      refine ret_mk ⟨[], [], []⟩ _ (by (try simp (disch := omega) only [go_sem, resVs, resV]) <;> rfl) ⟨rfl, rfl⟩ (by simp) ?_ trivial
      simp (disch := omega) only [go_sem]
      exact .eq (by simp [compatM, h, h', hk])
    · refine ret_mk ⟨[], [], []⟩ _ (by (try simp (disch := omega) only [go_sem, resVs, resV]) <;> rfl) ⟨rfl, rfl⟩ (by simp) ?_ trivial
      simp (disch := omega) only [go_sem]
      exact .eq (by simp [compatM, h, h'])
  · refine ret_mk ⟨[], [], []⟩ _ (by (try simp (disch := omega) only [go_sem, resVs, resV]) <;> rfl) ⟨rfl, rfl⟩ (by simp) ?_ trivial
    simp (disch := omega) only [go_sem]
    exact .eq (by simp [compatM, h])
def Res.covers (r : Res) (a b : Amt) : Bool := r.permits a && r.permits b && (if a.zero || b.zero then b.zero else if r.kind = 1 then coversM a.mode b.mode else decide (b.units ≤ a.units))
theorem f221_ok (r : Res) (a b : Amt) : FnOK C0 221 [.agg r.c, .agg a.c, .agg b.c] [] (B (r.covers a b)) [] := by
  refine FnOK.intro (fn := Tryz.f221) (c := Tryz.f221.body.getD .skip) (by kernel_rfl) (by kernel_rfl) (by kernel_rfl) (by kernel_rfl) (by simp [Tryz.f221]) (by simp [names]) ?_
  unfold Tryz.f221
  simp (disch := omega) only [go_sem]
  repeat' (first
    | (with_reducible refine And.intro (fun h => ?_) (fun h => ?_))
    | ((with_reducible show callB _ _ 197 _ _ _); refine call_pure (f197_ok r a) ?_ rfl ?_; (focus (simp (disch := omega) only [go_sem]; done)); try simp (disch := omega) only [go_sem])
    | ((with_reducible show callB _ _ 197 _ _ _); refine call_pure (f197_ok r b) ?_ rfl ?_; (focus (simp (disch := omega) only [go_sem]; done)); try simp (disch := omega) only [go_sem])
    | ((with_reducible show callB _ _ 212 _ _ _); refine call_pure (f212_ok a) ?_ rfl ?_; (focus (simp (disch := omega) only [go_sem]; done)); try simp (disch := omega) only [go_sem])
    | ((with_reducible show callB _ _ 212 _ _ _); refine call_pure (f212_ok b) ?_ rfl ?_; (focus (simp (disch := omega) only [go_sem]; done)); try simp (disch := omega) only [go_sem])
    | ((with_reducible show callB _ _ 228 _ _ _); refine call_pure (f228_ok a.mode b.mode) ?_ rfl ?_; (focus (simp (disch := omega) only [go_sem]; done)); try simp (disch := omega) only [go_sem]))
  all_goals (refine ret_mk ⟨[], [], []⟩ _ (by (try simp (disch := omega) only [go_sem, resVs, resV]) <;> rfl) ⟨rfl, rfl⟩ (by simp) ?_ trivial)
  all_goals (try simp (disch := omega) only [go_sem])
  all_goals (refine .eq ?_)
  all_goals (first | (simp_all [Res.covers] <;> omega) | (refine Bool.eq_iff_iff.2 ?_; simp_all [Res.covers] <;> omega))
end Go.Rd
