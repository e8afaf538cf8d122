/- part 12 of the proof -/
import Derived.Test.YthelplgdpmhepaaGreatDoorProg
import Derived.KernelRfl
import Derived.Test.YthelplgdpmhepaaGreatDoorT11
set_option linter.all false
open Go Go.Abs Go.Proofs
set_option maxRecDepth 100000
namespace Go.Rd
attribute [go_sem] if_pos wrap64 Int.natCast_add
theorem fol : Tryz.prog.follows .mixedOrders = true := by kernel_rfl
@[go_sem] theorem F.sz1 : szOf Tryz.prog 1 = some 1 := by kernel_rfl
@[go_sem] theorem F.ag1 : aggOf Tryz.prog 1 = some false := by kernel_rfl
@[go_sem] theorem F.ze1 : zeroOf Tryz.prog 1 = some [.nilFunc] := by kernel_rfl
@[go_sem] theorem F.sz3 : szOf Tryz.prog 3 = some 1 := by kernel_rfl
@[go_sem] theorem F.ag3 : aggOf Tryz.prog 3 = some false := by kernel_rfl
@[go_sem] theorem F.ze3 : zeroOf Tryz.prog 3 = some [.int .i64 0] := by kernel_rfl
@[go_sem] theorem F.in3 : intT Tryz.prog 3 = some .i64 := by kernel_rfl
@[go_sem] theorem F.sl3 : isSliceT Tryz.prog 3 = false := by kernel_rfl
@[go_sem] theorem F.i63 : isI64 Tryz.prog 3 = true := by kernel_rfl
@[go_sem] theorem F.sz4 : szOf Tryz.prog 4 = some 1 := by kernel_rfl
@[go_sem] theorem F.ag4 : aggOf Tryz.prog 4 = some false := by kernel_rfl
@[go_sem] theorem F.ze4 : zeroOf Tryz.prog 4 = some [.bool false] := by kernel_rfl
@[go_sem] theorem F.bo4 : boolT Tryz.prog 4 = true := by kernel_rfl
@[go_sem] theorem F.sz5 : szOf Tryz.prog 5 = some 1 := by kernel_rfl
@[go_sem] theorem F.ag5 : aggOf Tryz.prog 5 = some false := by kernel_rfl
@[go_sem] theorem F.ze5 : zeroOf Tryz.prog 5 = some [.int .u8 0] := by kernel_rfl
@[go_sem] theorem F.in5 : intT Tryz.prog 5 = some .u8 := by kernel_rfl
@[go_sem] theorem F.sl5 : isSliceT Tryz.prog 5 = false := by kernel_rfl
@[go_sem] theorem F.i65 : isI64 Tryz.prog 5 = false := by kernel_rfl
@[go_sem] theorem F.sz9 : szOf Tryz.prog 9 = some 1 := by kernel_rfl
@[go_sem] theorem F.ag9 : aggOf Tryz.prog 9 = some false := by kernel_rfl
@[go_sem] theorem F.ze9 : zeroOf Tryz.prog 9 = some [.string (str [])] := by kernel_rfl
@[go_sem] theorem F.st9 : strT Tryz.prog 9 = true := by kernel_rfl
@[go_sem] theorem F.by9 : isBytesT Tryz.prog 9 = false := by kernel_rfl
@[go_sem] theorem F.sz22 : szOf Tryz.prog 22 = some 1 := by kernel_rfl
@[go_sem] theorem F.ag22 : aggOf Tryz.prog 22 = some false := by kernel_rfl
@[go_sem] theorem F.ze22 : zeroOf Tryz.prog 22 = some [.slice none 0 0] := by kernel_rfl
@[go_sem] theorem F.el22 : elemOfSlice Tryz.prog 22 = some (92, 8) := by kernel_rfl
@[go_sem] theorem F.ro22 : rowInf Tryz.prog 22 = some (92, 8, 120) := by kernel_rfl
@[go_sem] theorem F.sl22 : isSliceT Tryz.prog 22 = true := by kernel_rfl
@[go_sem] theorem F.by22 : isBytesT Tryz.prog 22 = false := by kernel_rfl
@[go_sem] theorem F.st22 : strT Tryz.prog 22 = false := by kernel_rfl
@[go_sem] theorem F.sz23 : szOf Tryz.prog 23 = some 1 := by kernel_rfl
@[go_sem] theorem F.ag23 : aggOf Tryz.prog 23 = some false := by kernel_rfl
@[go_sem] theorem F.ze23 : zeroOf Tryz.prog 23 = some [.slice none 0 0] := by kernel_rfl
@[go_sem] theorem F.el23 : elemOfSlice Tryz.prog 23 = some (100, 9) := by kernel_rfl
@[go_sem] theorem F.ro23 : rowInf Tryz.prog 23 = some (100, 9, 96) := by kernel_rfl
@[go_sem] theorem F.sl23 : isSliceT Tryz.prog 23 = true := by kernel_rfl
@[go_sem] theorem F.by23 : isBytesT Tryz.prog 23 = false := by kernel_rfl
@[go_sem] theorem F.st23 : strT Tryz.prog 23 = false := by kernel_rfl
@[go_sem] theorem F.sz25 : szOf Tryz.prog 25 = some 2 := by kernel_rfl
@[go_sem] theorem F.ag25 : aggOf Tryz.prog 25 = some true := by kernel_rfl
@[go_sem] theorem F.ze25 : zeroOf Tryz.prog 25 = some [.slice none 0 0, .slice none 0 0] := by kernel_rfl
@[go_sem] theorem F.sd25 : sized Tryz.prog 25 = true := by kernel_rfl
@[go_sem] theorem F.of25_0 : offOf Tryz.prog 25 0 = some 0 := by kernel_rfl
@[go_sem] theorem F.pl25_0 : placeOf Tryz.prog 25 0 = some (0, 1) := by kernel_rfl
@[go_sem] theorem F.of25_1 : offOf Tryz.prog 25 1 = some 1 := by kernel_rfl
@[go_sem] theorem F.pl25_1 : placeOf Tryz.prog 25 1 = some (1, 1) := by kernel_rfl
@[go_sem] theorem F.sz27 : szOf Tryz.prog 27 = some 3 := by kernel_rfl
@[go_sem] theorem F.ag27 : aggOf Tryz.prog 27 = some true := by kernel_rfl
@[go_sem] theorem F.ze27 : zeroOf Tryz.prog 27 = some [.int .i64 0, .int .i64 0, .int .i64 0] := by kernel_rfl
@[go_sem] theorem F.sd27 : sized Tryz.prog 27 = true := by kernel_rfl
@[go_sem] theorem F.of27_0 : offOf Tryz.prog 27 0 = some 0 := by kernel_rfl
@[go_sem] theorem F.pl27_0 : placeOf Tryz.prog 27 0 = some (0, 1) := by kernel_rfl
@[go_sem] theorem F.of27_1 : offOf Tryz.prog 27 1 = some 1 := by kernel_rfl
@[go_sem] theorem F.pl27_1 : placeOf Tryz.prog 27 1 = some (1, 1) := by kernel_rfl
@[go_sem] theorem F.of27_2 : offOf Tryz.prog 27 2 = some 2 := by kernel_rfl
@[go_sem] theorem F.pl27_2 : placeOf Tryz.prog 27 2 = some (2, 1) := by kernel_rfl
@[go_sem] theorem F.eq27 : structEq Tryz.prog 27 = some [1, 1, 1] := by kernel_rfl
@[go_sem] theorem F.sz30 : szOf Tryz.prog 30 = some 1 := by kernel_rfl
@[go_sem] theorem F.ag30 : aggOf Tryz.prog 30 = some false := by kernel_rfl
@[go_sem] theorem F.ze30 : zeroOf Tryz.prog 30 = some [.slice none 0 0] := by kernel_rfl
@[go_sem] theorem F.el30 : elemOfSlice Tryz.prog 30 = some (27, 3) := by kernel_rfl
@[go_sem] theorem F.ro30 : rowInf Tryz.prog 30 = some (27, 3, 24) := by kernel_rfl
@[go_sem] theorem F.sl30 : isSliceT Tryz.prog 30 = true := by kernel_rfl
@[go_sem] theorem F.by30 : isBytesT Tryz.prog 30 = false := by kernel_rfl
@[go_sem] theorem F.st30 : strT Tryz.prog 30 = false := by kernel_rfl
@[go_sem] theorem F.sz36 : szOf Tryz.prog 36 = some 1 := by kernel_rfl
@[go_sem] theorem F.ag36 : aggOf Tryz.prog 36 = some false := by kernel_rfl
@[go_sem] theorem F.ze36 : zeroOf Tryz.prog 36 = some [.int .i64 0] := by kernel_rfl
@[go_sem] theorem F.in36 : intT Tryz.prog 36 = some .i64 := by kernel_rfl
@[go_sem] theorem F.sl36 : isSliceT Tryz.prog 36 = false := by kernel_rfl
@[go_sem] theorem F.i636 : isI64 Tryz.prog 36 = true := by kernel_rfl
@[go_sem] theorem F.sz39 : szOf Tryz.prog 39 = some 1 := by kernel_rfl
@[go_sem] theorem F.ag39 : aggOf Tryz.prog 39 = some false := by kernel_rfl
@[go_sem] theorem F.ze39 : zeroOf Tryz.prog 39 = some [.slice none 0 0] := by kernel_rfl
@[go_sem] theorem F.el39 : elemOfSlice Tryz.prog 39 = some (3, 1) := by kernel_rfl
@[go_sem] theorem F.ro39 : rowInf Tryz.prog 39 = some (3, 1, 8) := by kernel_rfl
@[go_sem] theorem F.sl39 : isSliceT Tryz.prog 39 = true := by kernel_rfl
@[go_sem] theorem F.by39 : isBytesT Tryz.prog 39 = false := by kernel_rfl
@[go_sem] theorem F.st39 : strT Tryz.prog 39 = false := by kernel_rfl
@[go_sem] theorem F.sz45 : szOf Tryz.prog 45 = some 1 := by kernel_rfl
@[go_sem] theorem F.ag45 : aggOf Tryz.prog 45 = some false := by kernel_rfl
@[go_sem] theorem F.ze45 : zeroOf Tryz.prog 45 = some [.slice none 0 0] := by kernel_rfl
@[go_sem] theorem F.el45 : elemOfSlice Tryz.prog 45 = some (65, 16) := by kernel_rfl
@[go_sem] theorem F.ro45 : rowInf Tryz.prog 45 = some (65, 16, 184) := by kernel_rfl
@[go_sem] theorem F.sl45 : isSliceT Tryz.prog 45 = true := by kernel_rfl
@[go_sem] theorem F.by45 : isBytesT Tryz.prog 45 = false := by kernel_rfl
@[go_sem] theorem F.st45 : strT Tryz.prog 45 = false := by kernel_rfl
@[go_sem] theorem F.sz47 : szOf Tryz.prog 47 = some 3 := by kernel_rfl
@[go_sem] theorem F.ag47 : aggOf Tryz.prog 47 = some true := by kernel_rfl
@[go_sem] theorem F.ze47 : zeroOf Tryz.prog 47 = some [.int .i64 0, .slice none 0 0, .slice none 0 0] := by kernel_rfl
@[go_sem] theorem F.sd47 : sized Tryz.prog 47 = true := by kernel_rfl
@[go_sem] theorem F.of47_0 : offOf Tryz.prog 47 0 = some 0 := by kernel_rfl
@[go_sem] theorem F.pl47_0 : placeOf Tryz.prog 47 0 = some (0, 1) := by kernel_rfl
@[go_sem] theorem F.of47_1 : offOf Tryz.prog 47 1 = some 1 := by kernel_rfl
@[go_sem] theorem F.pl47_1 : placeOf Tryz.prog 47 1 = some (1, 1) := by kernel_rfl
@[go_sem] theorem F.of47_2 : offOf Tryz.prog 47 2 = some 2 := by kernel_rfl
@[go_sem] theorem F.pl47_2 : placeOf Tryz.prog 47 2 = some (2, 1) := by kernel_rfl
@[go_sem] theorem F.sz51 : szOf Tryz.prog 51 = some 1 := by kernel_rfl
@[go_sem] theorem F.ag51 : aggOf Tryz.prog 51 = some false := by kernel_rfl
@[go_sem] theorem F.ze51 : zeroOf Tryz.prog 51 = some [.slice none 0 0] := by kernel_rfl
@[go_sem] theorem F.el51 : elemOfSlice Tryz.prog 51 = some (203, 5) := by kernel_rfl
@[go_sem] theorem F.ro51 : rowInf Tryz.prog 51 = some (203, 5, 48) := by kernel_rfl
@[go_sem] theorem F.sl51 : isSliceT Tryz.prog 51 = true := by kernel_rfl
@[go_sem] theorem F.by51 : isBytesT Tryz.prog 51 = false := by kernel_rfl
@[go_sem] theorem F.st51 : strT Tryz.prog 51 = false := by kernel_rfl
@[go_sem] theorem F.sz52 : szOf Tryz.prog 52 = some 1 := by kernel_rfl
@[go_sem] theorem F.ag52 : aggOf Tryz.prog 52 = some false := by kernel_rfl
@[go_sem] theorem F.ze52 : zeroOf Tryz.prog 52 = some [.slice none 0 0] := by kernel_rfl
@[go_sem] theorem F.el52 : elemOfSlice Tryz.prog 52 = some (209, 2) := by kernel_rfl
@[go_sem] theorem F.ro52 : rowInf Tryz.prog 52 = some (209, 2, 16) := by kernel_rfl
@[go_sem] theorem F.sl52 : isSliceT Tryz.prog 52 = true := by kernel_rfl
@[go_sem] theorem F.by52 : isBytesT Tryz.prog 52 = false := by kernel_rfl
@[go_sem] theorem F.st52 : strT Tryz.prog 52 = false := by kernel_rfl
@[go_sem] theorem F.sz54 : szOf Tryz.prog 54 = some 2 := by kernel_rfl
@[go_sem] theorem F.ag54 : aggOf Tryz.prog 54 = some true := by kernel_rfl
@[go_sem] theorem F.ze54 : zeroOf Tryz.prog 54 = some [.slice none 0 0, .slice none 0 0] := by kernel_rfl
@[go_sem] theorem F.sd54 : sized Tryz.prog 54 = true := by kernel_rfl
@[go_sem] theorem F.of54_0 : offOf Tryz.prog 54 0 = some 0 := by kernel_rfl
@[go_sem] theorem F.pl54_0 : placeOf Tryz.prog 54 0 = some (0, 1) := by kernel_rfl
@[go_sem] theorem F.of54_1 : offOf Tryz.prog 54 1 = some 1 := by kernel_rfl
@[go_sem] theorem F.pl54_1 : placeOf Tryz.prog 54 1 = some (1, 1) := by kernel_rfl
@[go_sem] theorem F.sz56 : szOf Tryz.prog 56 = some 2 := by kernel_rfl
@[go_sem] theorem F.ag56 : aggOf Tryz.prog 56 = some true := by kernel_rfl
@[go_sem] theorem F.ze56 : zeroOf Tryz.prog 56 = some [.int .i64 0, .int .i64 0] := by kernel_rfl
@[go_sem] theorem F.sd56 : sized Tryz.prog 56 = true := by kernel_rfl
@[go_sem] theorem F.of56_0 : offOf Tryz.prog 56 0 = some 0 := by kernel_rfl
@[go_sem] theorem F.pl56_0 : placeOf Tryz.prog 56 0 = some (0, 1) := by kernel_rfl
@[go_sem] theorem F.of56_1 : offOf Tryz.prog 56 1 = some 1 := by kernel_rfl
@[go_sem] theorem F.pl56_1 : placeOf Tryz.prog 56 1 = some (1, 1) := by kernel_rfl
@[go_sem] theorem F.eq56 : structEq Tryz.prog 56 = some [1, 1] := by kernel_rfl
@[go_sem] theorem F.sz58 : szOf Tryz.prog 58 = some 3 := by kernel_rfl
@[go_sem] theorem F.ag58 : aggOf Tryz.prog 58 = some true := by kernel_rfl
@[go_sem] theorem F.ze58 : zeroOf Tryz.prog 58 = some [.string (str []), .int .i64 0, .int .i64 0] := by kernel_rfl
@[go_sem] theorem F.sd58 : sized Tryz.prog 58 = true := by kernel_rfl
@[go_sem] theorem F.of58_0 : offOf Tryz.prog 58 0 = some 0 := by kernel_rfl
@[go_sem] theorem F.pl58_0 : placeOf Tryz.prog 58 0 = some (0, 1) := by kernel_rfl
@[go_sem] theorem F.of58_1 : offOf Tryz.prog 58 1 = some 1 := by kernel_rfl
@[go_sem] theorem F.pl58_1 : placeOf Tryz.prog 58 1 = some (1, 2) := by kernel_rfl
@[go_sem] theorem F.eq58 : structEq Tryz.prog 58 = some [2, 1, 1] := by kernel_rfl
@[go_sem] theorem F.sz59 : szOf Tryz.prog 59 = some 1 := by kernel_rfl
@[go_sem] theorem F.ag59 : aggOf Tryz.prog 59 = some false := by kernel_rfl
@[go_sem] theorem F.ze59 : zeroOf Tryz.prog 59 = some [.slice none 0 0] := by kernel_rfl
@[go_sem] theorem F.el59 : elemOfSlice Tryz.prog 59 = some (61, 5) := by kernel_rfl
@[go_sem] theorem F.ro59 : rowInf Tryz.prog 59 = some (61, 5, 64) := by kernel_rfl
@[go_sem] theorem F.sl59 : isSliceT Tryz.prog 59 = true := by kernel_rfl
@[go_sem] theorem F.by59 : isBytesT Tryz.prog 59 = false := by kernel_rfl
@[go_sem] theorem F.st59 : strT Tryz.prog 59 = false := by kernel_rfl
@[go_sem] theorem F.sz61 : szOf Tryz.prog 61 = some 5 := by kernel_rfl
@[go_sem] theorem F.ag61 : aggOf Tryz.prog 61 = some true := by kernel_rfl
@[go_sem] theorem F.ze61 : zeroOf Tryz.prog 61 = some [.int .i64 0, .string (str []), .int .i64 0, .int .i64 0, .slice none 0 0] := by kernel_rfl
@[go_sem] theorem F.sd61 : sized Tryz.prog 61 = true := by kernel_rfl
@[go_sem] theorem F.of61_0 : offOf Tryz.prog 61 0 = some 0 := by kernel_rfl
@[go_sem] theorem F.pl61_0 : placeOf Tryz.prog 61 0 = some (0, 1) := by kernel_rfl
@[go_sem] theorem F.of61_1 : offOf Tryz.prog 61 1 = some 1 := by kernel_rfl
@[go_sem] theorem F.pl61_1 : placeOf Tryz.prog 61 1 = some (1, 3) := by kernel_rfl
@[go_sem] theorem F.of61_2 : offOf Tryz.prog 61 2 = some 4 := by kernel_rfl
@[go_sem] theorem F.pl61_2 : placeOf Tryz.prog 61 2 = some (4, 1) := by kernel_rfl
@[go_sem] theorem F.sz63 : szOf Tryz.prog 63 = some 7 := by kernel_rfl
@[go_sem] theorem F.ag63 : aggOf Tryz.prog 63 = some true := by kernel_rfl
@[go_sem] theorem F.ze63 : zeroOf Tryz.prog 63 = some [.int .i64 0, .string (str []), .int .i64 0, .int .i64 0, .slice none 0 0, .int .i64 0, .int .i64 0] := by kernel_rfl
@[go_sem] theorem F.sd63 : sized Tryz.prog 63 = true := by kernel_rfl
@[go_sem] theorem F.of63_0 : offOf Tryz.prog 63 0 = some 0 := by kernel_rfl
@[go_sem] theorem F.pl63_0 : placeOf Tryz.prog 63 0 = some (0, 5) := by kernel_rfl
@[go_sem] theorem F.of63_1 : offOf Tryz.prog 63 1 = some 5 := by kernel_rfl
@[go_sem] theorem F.pl63_1 : placeOf Tryz.prog 63 1 = some (5, 1) := by kernel_rfl
@[go_sem] theorem F.of63_2 : offOf Tryz.prog 63 2 = some 6 := by kernel_rfl
@[go_sem] theorem F.pl63_2 : placeOf Tryz.prog 63 2 = some (6, 1) := by kernel_rfl
@[go_sem] theorem F.sz65 : szOf Tryz.prog 65 = some 16 := by kernel_rfl
@[go_sem] theorem F.ag65 : aggOf Tryz.prog 65 = some true := by kernel_rfl
@[go_sem] theorem F.ze65 : zeroOf Tryz.prog 65 = some [.int .i64 0, .int .i64 0, .int .i64 0, .int .i64 0, .slice none 0 0, .slice none 0 0, .bool false, .int .i64 0, .string (str []), .int .i64 0, .int .i64 0, .slice none 0 0, .int .i64 0, .int .i64 0, .int .i64 0, .int .i64 0] := by kernel_rfl
@[go_sem] theorem F.sd65 : sized Tryz.prog 65 = true := by kernel_rfl
@[go_sem] theorem F.of65_0 : offOf Tryz.prog 65 0 = some 0 := by kernel_rfl
@[go_sem] theorem F.pl65_0 : placeOf Tryz.prog 65 0 = some (0, 3) := by kernel_rfl
@[go_sem] theorem F.of65_1 : offOf Tryz.prog 65 1 = some 3 := by kernel_rfl
@[go_sem] theorem F.pl65_1 : placeOf Tryz.prog 65 1 = some (3, 1) := by kernel_rfl
@[go_sem] theorem F.of65_2 : offOf Tryz.prog 65 2 = some 4 := by kernel_rfl
@[go_sem] theorem F.pl65_2 : placeOf Tryz.prog 65 2 = some (4, 2) := by kernel_rfl
@[go_sem] theorem F.of65_3 : offOf Tryz.prog 65 3 = some 6 := by kernel_rfl
@[go_sem] theorem F.pl65_3 : placeOf Tryz.prog 65 3 = some (6, 1) := by kernel_rfl
@[go_sem] theorem F.of65_4 : offOf Tryz.prog 65 4 = some 7 := by kernel_rfl
@[go_sem] theorem F.pl65_4 : placeOf Tryz.prog 65 4 = some (7, 7) := by kernel_rfl
@[go_sem] theorem F.of65_5 : offOf Tryz.prog 65 5 = some 14 := by kernel_rfl
@[go_sem] theorem F.pl65_5 : placeOf Tryz.prog 65 5 = some (14, 1) := by kernel_rfl
@[go_sem] theorem F.of65_6 : offOf Tryz.prog 65 6 = some 15 := by kernel_rfl
@[go_sem] theorem F.pl65_6 : placeOf Tryz.prog 65 6 = some (15, 1) := by kernel_rfl
@[go_sem] theorem F.sz69 : szOf Tryz.prog 69 = some 1 := by kernel_rfl
@[go_sem] theorem F.ag69 : aggOf Tryz.prog 69 = some false := by kernel_rfl
@[go_sem] theorem F.ze69 : zeroOf Tryz.prog 69 = some [.slice none 0 0] := by kernel_rfl
@[go_sem] theorem F.el69 : elemOfSlice Tryz.prog 69 = some (247, 7) := by kernel_rfl
@[go_sem] theorem F.ro69 : rowInf Tryz.prog 69 = some (247, 7, 64) := by kernel_rfl
@[go_sem] theorem F.sl69 : isSliceT Tryz.prog 69 = true := by kernel_rfl
@[go_sem] theorem F.by69 : isBytesT Tryz.prog 69 = false := by kernel_rfl
@[go_sem] theorem F.st69 : strT Tryz.prog 69 = false := by kernel_rfl
@[go_sem] theorem F.sz73 : szOf Tryz.prog 73 = some 13 := by kernel_rfl
@[go_sem] theorem F.ag73 : aggOf Tryz.prog 73 = some true := by kernel_rfl
@[go_sem] theorem F.ze73 : zeroOf Tryz.prog 73 = some [.int .i64 0, .int .i64 0, .int .i64 0, .int .i64 0, .int .i64 0, .string (str []), .int .i64 0, .int .i64 0, .slice none 0 0, .int .i64 0, .int .i64 0, .string (str []), .int .i64 0] := by kernel_rfl
@[go_sem] theorem F.sd73 : sized Tryz.prog 73 = true := by kernel_rfl
@[go_sem] theorem F.of73_0 : offOf Tryz.prog 73 0 = some 0 := by kernel_rfl
@[go_sem] theorem F.pl73_0 : placeOf Tryz.prog 73 0 = some (0, 1) := by kernel_rfl
@[go_sem] theorem F.of73_1 : offOf Tryz.prog 73 1 = some 1 := by kernel_rfl
@[go_sem] theorem F.pl73_1 : placeOf Tryz.prog 73 1 = some (1, 3) := by kernel_rfl
@[go_sem] theorem F.of73_2 : offOf Tryz.prog 73 2 = some 4 := by kernel_rfl
@[go_sem] theorem F.pl73_2 : placeOf Tryz.prog 73 2 = some (4, 7) := by kernel_rfl
@[go_sem] theorem F.of73_3 : offOf Tryz.prog 73 3 = some 11 := by kernel_rfl
@[go_sem] theorem F.pl73_3 : placeOf Tryz.prog 73 3 = some (11, 1) := by kernel_rfl
@[go_sem] theorem F.of73_4 : offOf Tryz.prog 73 4 = some 12 := by kernel_rfl
@[go_sem] theorem F.pl73_4 : placeOf Tryz.prog 73 4 = some (12, 1) := by kernel_rfl
@[go_sem] theorem F.sz82 : szOf Tryz.prog 82 = some 1 := by kernel_rfl
@[go_sem] theorem F.ag82 : aggOf Tryz.prog 82 = some false := by kernel_rfl
@[go_sem] theorem F.ze82 : zeroOf Tryz.prog 82 = some [.pointer none] := by kernel_rfl
@[go_sem] theorem F.sz84 : szOf Tryz.prog 84 = some 2 := by kernel_rfl
@[go_sem] theorem F.ag84 : aggOf Tryz.prog 84 = some true := by kernel_rfl
@[go_sem] theorem F.ze84 : zeroOf Tryz.prog 84 = some [.slice none 0 0, .int .i64 0] := by kernel_rfl
@[go_sem] theorem F.sd84 : sized Tryz.prog 84 = true := by kernel_rfl
@[go_sem] theorem F.of84_0 : offOf Tryz.prog 84 0 = some 0 := by kernel_rfl
@[go_sem] theorem F.pl84_0 : placeOf Tryz.prog 84 0 = some (0, 1) := by kernel_rfl
@[go_sem] theorem F.of84_1 : offOf Tryz.prog 84 1 = some 1 := by kernel_rfl
@[go_sem] theorem F.pl84_1 : placeOf Tryz.prog 84 1 = some (1, 1) := by kernel_rfl
@[go_sem] theorem F.sz88 : szOf Tryz.prog 88 = some 4 := by kernel_rfl
@[go_sem] theorem F.ag88 : aggOf Tryz.prog 88 = some true := by kernel_rfl
@[go_sem] theorem F.ze88 : zeroOf Tryz.prog 88 = some [.string (str []), .int .i64 0, .int .i64 0, .int .i64 0] := by kernel_rfl
@[go_sem] theorem F.sd88 : sized Tryz.prog 88 = true := by kernel_rfl
@[go_sem] theorem F.of88_0 : offOf Tryz.prog 88 0 = some 0 := by kernel_rfl
@[go_sem] theorem F.pl88_0 : placeOf Tryz.prog 88 0 = some (0, 1) := by kernel_rfl
@[go_sem] theorem F.of88_1 : offOf Tryz.prog 88 1 = some 1 := by kernel_rfl
@[go_sem] theorem F.pl88_1 : placeOf Tryz.prog 88 1 = some (1, 1) := by kernel_rfl
@[go_sem] theorem F.of88_2 : offOf Tryz.prog 88 2 = some 2 := by kernel_rfl
@[go_sem] theorem F.pl88_2 : placeOf Tryz.prog 88 2 = some (2, 1) := by kernel_rfl
@[go_sem] theorem F.of88_3 : offOf Tryz.prog 88 3 = some 3 := by kernel_rfl
@[go_sem] theorem F.pl88_3 : placeOf Tryz.prog 88 3 = some (3, 1) := by kernel_rfl
@[go_sem] theorem F.eq88 : structEq Tryz.prog 88 = some [2, 1, 1, 1] := by kernel_rfl
@[go_sem] theorem F.sz89 : szOf Tryz.prog 89 = some 1 := by kernel_rfl
@[go_sem] theorem F.ag89 : aggOf Tryz.prog 89 = some false := by kernel_rfl
@[go_sem] theorem F.ze89 : zeroOf Tryz.prog 89 = some [.slice none 0 0] := by kernel_rfl
@[go_sem] theorem F.el89 : elemOfSlice Tryz.prog 89 = some (147, 5) := by kernel_rfl
@[go_sem] theorem F.ro89 : rowInf Tryz.prog 89 = some (147, 5, 40) := by kernel_rfl
@[go_sem] theorem F.sl89 : isSliceT Tryz.prog 89 = true := by kernel_rfl
@[go_sem] theorem F.by89 : isBytesT Tryz.prog 89 = false := by kernel_rfl
@[go_sem] theorem F.st89 : strT Tryz.prog 89 = false := by kernel_rfl
@[go_sem] theorem F.sz90 : szOf Tryz.prog 90 = some 1 := by kernel_rfl
@[go_sem] theorem F.ag90 : aggOf Tryz.prog 90 = some false := by kernel_rfl
@[go_sem] theorem F.ze90 : zeroOf Tryz.prog 90 = some [.slice none 0 0] := by kernel_rfl
@[go_sem] theorem F.el90 : elemOfSlice Tryz.prog 90 = some (150, 7) := by kernel_rfl
@[go_sem] theorem F.ro90 : rowInf Tryz.prog 90 = some (150, 7, 56) := by kernel_rfl
@[go_sem] theorem F.sl90 : isSliceT Tryz.prog 90 = true := by kernel_rfl
@[go_sem] theorem F.by90 : isBytesT Tryz.prog 90 = false := by kernel_rfl
@[go_sem] theorem F.st90 : strT Tryz.prog 90 = false := by kernel_rfl
@[go_sem] theorem F.sz92 : szOf Tryz.prog 92 = some 8 := by kernel_rfl
@[go_sem] theorem F.ag92 : aggOf Tryz.prog 92 = some true := by kernel_rfl
@[go_sem] theorem F.ze92 : zeroOf Tryz.prog 92 = some [.string (str []), .int .i64 0, .int .i64 0, .int .i64 0, .slice none 0 0, .slice none 0 0, .slice none 0 0, .int .i64 0] := by kernel_rfl
@[go_sem] theorem F.sd92 : sized Tryz.prog 92 = true := by kernel_rfl
@[go_sem] theorem F.of92_0 : offOf Tryz.prog 92 0 = some 0 := by kernel_rfl
@[go_sem] theorem F.pl92_0 : placeOf Tryz.prog 92 0 = some (0, 4) := by kernel_rfl
@[go_sem] theorem F.of92_1 : offOf Tryz.prog 92 1 = some 4 := by kernel_rfl
@[go_sem] theorem F.pl92_1 : placeOf Tryz.prog 92 1 = some (4, 1) := by kernel_rfl
@[go_sem] theorem F.of92_2 : offOf Tryz.prog 92 2 = some 5 := by kernel_rfl
@[go_sem] theorem F.pl92_2 : placeOf Tryz.prog 92 2 = some (5, 1) := by kernel_rfl
@[go_sem] theorem F.of92_3 : offOf Tryz.prog 92 3 = some 6 := by kernel_rfl
@[go_sem] theorem F.pl92_3 : placeOf Tryz.prog 92 3 = some (6, 1) := by kernel_rfl
@[go_sem] theorem F.of92_4 : offOf Tryz.prog 92 4 = some 7 := by kernel_rfl
@[go_sem] theorem F.pl92_4 : placeOf Tryz.prog 92 4 = some (7, 1) := by kernel_rfl
@[go_sem] theorem F.sz96 : szOf Tryz.prog 96 = some 1 := by kernel_rfl
@[go_sem] theorem F.ag96 : aggOf Tryz.prog 96 = some false := by kernel_rfl
@[go_sem] theorem F.ze96 : zeroOf Tryz.prog 96 = some [.nilFunc] := by kernel_rfl
@[go_sem] theorem F.sz100 : szOf Tryz.prog 100 = some 9 := by kernel_rfl
@[go_sem] theorem F.ag100 : aggOf Tryz.prog 100 = some true := by kernel_rfl
@[go_sem] theorem F.ze100 : zeroOf Tryz.prog 100 = some [.int .i64 0, .int .i64 0, .int .i64 0, .int .i64 0, .string (str []), .int .i64 0, .int .i64 0, .slice none 0 0, .int .i64 0] := by kernel_rfl
@[go_sem] theorem F.sd100 : sized Tryz.prog 100 = true := by kernel_rfl
@[go_sem] theorem F.of100_0 : offOf Tryz.prog 100 0 = some 0 := by kernel_rfl
@[go_sem] theorem F.pl100_0 : placeOf Tryz.prog 100 0 = some (0, 3) := by kernel_rfl
@[go_sem] theorem F.of100_1 : offOf Tryz.prog 100 1 = some 3 := by kernel_rfl
@[go_sem] theorem F.pl100_1 : placeOf Tryz.prog 100 1 = some (3, 5) := by kernel_rfl
@[go_sem] theorem F.of100_2 : offOf Tryz.prog 100 2 = some 8 := by kernel_rfl
@[go_sem] theorem F.pl100_2 : placeOf Tryz.prog 100 2 = some (8, 1) := by kernel_rfl
@[go_sem] theorem F.sz102 : szOf Tryz.prog 102 = some 1 := by kernel_rfl
@[go_sem] theorem F.ag102 : aggOf Tryz.prog 102 = some false := by kernel_rfl
@[go_sem] theorem F.ze102 : zeroOf Tryz.prog 102 = some [.slice none 0 0] := by kernel_rfl
@[go_sem] theorem F.el102 : elemOfSlice Tryz.prog 102 = some (88, 4) := by kernel_rfl
@[go_sem] theorem F.ro102 : rowInf Tryz.prog 102 = some (88, 4, 40) := by kernel_rfl
@[go_sem] theorem F.sl102 : isSliceT Tryz.prog 102 = true := by kernel_rfl
@[go_sem] theorem F.by102 : isBytesT Tryz.prog 102 = false := by kernel_rfl
@[go_sem] theorem F.st102 : strT Tryz.prog 102 = false := by kernel_rfl
@[go_sem] theorem F.sz103 : szOf Tryz.prog 103 = some 1 := by kernel_rfl
@[go_sem] theorem F.ag103 : aggOf Tryz.prog 103 = some false := by kernel_rfl
@[go_sem] theorem F.ze103 : zeroOf Tryz.prog 103 = some [.slice none 0 0] := by kernel_rfl
@[go_sem] theorem F.el103 : elemOfSlice Tryz.prog 103 = some (73, 13) := by kernel_rfl
@[go_sem] theorem F.ro103 : rowInf Tryz.prog 103 = some (73, 13, 136) := by kernel_rfl
@[go_sem] theorem F.sl103 : isSliceT Tryz.prog 103 = true := by kernel_rfl
@[go_sem] theorem F.by103 : isBytesT Tryz.prog 103 = false := by kernel_rfl
@[go_sem] theorem F.st103 : strT Tryz.prog 103 = false := by kernel_rfl
@[go_sem] theorem F.sz112 : szOf Tryz.prog 112 = some 1 := by kernel_rfl
@[go_sem] theorem F.ag112 : aggOf Tryz.prog 112 = some false := by kernel_rfl
@[go_sem] theorem F.ze112 : zeroOf Tryz.prog 112 = some [.pointer none] := by kernel_rfl
@[go_sem] theorem F.sz115 : szOf Tryz.prog 115 = some 4 := by kernel_rfl
@[go_sem] theorem F.ag115 : aggOf Tryz.prog 115 = some true := by kernel_rfl
@[go_sem] theorem F.ze115 : zeroOf Tryz.prog 115 = some [.int .i64 0, .slice none 0 0, .slice none 0 0, .slice none 0 0] := by kernel_rfl
@[go_sem] theorem F.sd115 : sized Tryz.prog 115 = true := by kernel_rfl
@[go_sem] theorem F.of115_0 : offOf Tryz.prog 115 0 = some 0 := by kernel_rfl
@[go_sem] theorem F.pl115_0 : placeOf Tryz.prog 115 0 = some (0, 3) := by kernel_rfl
@[go_sem] theorem F.of115_1 : offOf Tryz.prog 115 1 = some 3 := by kernel_rfl
@[go_sem] theorem F.pl115_1 : placeOf Tryz.prog 115 1 = some (3, 1) := by kernel_rfl
@[go_sem] theorem F.sz131 : szOf Tryz.prog 131 = some 3 := by kernel_rfl
@[go_sem] theorem F.ag131 : aggOf Tryz.prog 131 = some true := by kernel_rfl
@[go_sem] theorem F.ze131 : zeroOf Tryz.prog 131 = some [.int .i64 0, .int .i64 0, .int .i64 0] := by kernel_rfl
@[go_sem] theorem F.el131 : elemOfSlice Tryz.prog 131 = none := by kernel_rfl
@[go_sem] theorem F.ar131 : elemOfArray Tryz.prog 131 = some (3, 1) := by kernel_rfl
@[go_sem] theorem F.ei131 : elemInf Tryz.prog 131 = some (3, 1, false) := by kernel_rfl
@[go_sem] theorem F.sd131 : sized Tryz.prog 131 = true := by kernel_rfl
@[go_sem] theorem F.pl131_0 : placeOf Tryz.prog 131 0 = some (0, 1) := by kernel_rfl
@[go_sem] theorem F.pl131_1 : placeOf Tryz.prog 131 1 = some (1, 1) := by kernel_rfl
@[go_sem] theorem F.pl131_2 : placeOf Tryz.prog 131 2 = some (2, 1) := by kernel_rfl
@[go_sem] theorem F.sz147 : szOf Tryz.prog 147 = some 5 := by kernel_rfl
@[go_sem] theorem F.ag147 : aggOf Tryz.prog 147 = some true := by kernel_rfl
@[go_sem] theorem F.ze147 : zeroOf Tryz.prog 147 = some [.int .i64 0, .int .i64 0, .int .i64 0, .int .i64 0, .int .i64 0] := by kernel_rfl
@[go_sem] theorem F.sd147 : sized Tryz.prog 147 = true := by kernel_rfl
@[go_sem] theorem F.of147_0 : offOf Tryz.prog 147 0 = some 0 := by kernel_rfl
@[go_sem] theorem F.pl147_0 : placeOf Tryz.prog 147 0 = some (0, 3) := by kernel_rfl
@[go_sem] theorem F.of147_1 : offOf Tryz.prog 147 1 = some 3 := by kernel_rfl
@[go_sem] theorem F.pl147_1 : placeOf Tryz.prog 147 1 = some (3, 2) := by kernel_rfl
@[go_sem] theorem F.eq147 : structEq Tryz.prog 147 = some [1, 1, 1, 1, 1] := by kernel_rfl
@[go_sem] theorem F.sz150 : szOf Tryz.prog 150 = some 7 := by kernel_rfl
@[go_sem] theorem F.ag150 : aggOf Tryz.prog 150 = some true := by kernel_rfl
@[go_sem] theorem F.ze150 : zeroOf Tryz.prog 150 = some [.int .i64 0, .int .i64 0, .int .i64 0, .int .i64 0, .int .i64 0, .int .i64 0, .int .i64 0] := by kernel_rfl
@[go_sem] theorem F.sd150 : sized Tryz.prog 150 = true := by kernel_rfl
@[go_sem] theorem F.of150_0 : offOf Tryz.prog 150 0 = some 0 := by kernel_rfl
@[go_sem] theorem F.pl150_0 : placeOf Tryz.prog 150 0 = some (0, 3) := by kernel_rfl
@[go_sem] theorem F.of150_1 : offOf Tryz.prog 150 1 = some 3 := by kernel_rfl
@[go_sem] theorem F.pl150_1 : placeOf Tryz.prog 150 1 = some (3, 2) := by kernel_rfl
@[go_sem] theorem F.of150_2 : offOf Tryz.prog 150 2 = some 5 := by kernel_rfl
@[go_sem] theorem F.pl150_2 : placeOf Tryz.prog 150 2 = some (5, 1) := by kernel_rfl
@[go_sem] theorem F.of150_3 : offOf Tryz.prog 150 3 = some 6 := by kernel_rfl
@[go_sem] theorem F.pl150_3 : placeOf Tryz.prog 150 3 = some (6, 1) := by kernel_rfl
@[go_sem] theorem F.eq150 : structEq Tryz.prog 150 = some [1, 1, 1, 1, 1, 1, 1] := by kernel_rfl
@[go_sem] theorem F.sz156 : szOf Tryz.prog 156 = some 1 := by kernel_rfl
@[go_sem] theorem F.ag156 : aggOf Tryz.prog 156 = some false := by kernel_rfl
@[go_sem] theorem F.ze156 : zeroOf Tryz.prog 156 = some [.slice none 0 0] := by kernel_rfl
@[go_sem] theorem F.el156 : elemOfSlice Tryz.prog 156 = some (4, 1) := by kernel_rfl
@[go_sem] theorem F.ro156 : rowInf Tryz.prog 156 = some (4, 1, 1) := by kernel_rfl
@[go_sem] theorem F.sl156 : isSliceT Tryz.prog 156 = true := by kernel_rfl
@[go_sem] theorem F.by156 : isBytesT Tryz.prog 156 = false := by kernel_rfl
@[go_sem] theorem F.st156 : strT Tryz.prog 156 = false := by kernel_rfl
@[go_sem] theorem F.sz161 : szOf Tryz.prog 161 = some 1 := by kernel_rfl
@[go_sem] theorem F.ag161 : aggOf Tryz.prog 161 = some false := by kernel_rfl
@[go_sem] theorem F.ze161 : zeroOf Tryz.prog 161 = some [.slice none 0 0] := by kernel_rfl
@[go_sem] theorem F.el161 : elemOfSlice Tryz.prog 161 = some (58, 3) := by kernel_rfl
@[go_sem] theorem F.ro161 : rowInf Tryz.prog 161 = some (58, 3, 32) := by kernel_rfl
@[go_sem] theorem F.sl161 : isSliceT Tryz.prog 161 = true := by kernel_rfl
@[go_sem] theorem F.by161 : isBytesT Tryz.prog 161 = false := by kernel_rfl
@[go_sem] theorem F.st161 : strT Tryz.prog 161 = false := by kernel_rfl
@[go_sem] theorem F.sz164 : szOf Tryz.prog 164 = some 1 := by kernel_rfl
@[go_sem] theorem F.ag164 : aggOf Tryz.prog 164 = some false := by kernel_rfl
@[go_sem] theorem F.ze164 : zeroOf Tryz.prog 164 = some [.pointer none] := by kernel_rfl
@[go_sem] theorem F.sz177 : szOf Tryz.prog 177 = some 1 := by kernel_rfl
@[go_sem] theorem F.ag177 : aggOf Tryz.prog 177 = some false := by kernel_rfl
@[go_sem] theorem F.ze177 : zeroOf Tryz.prog 177 = some [.slice none 0 0] := by kernel_rfl
@[go_sem] theorem F.el177 : elemOfSlice Tryz.prog 177 = some (9, 1) := by kernel_rfl
@[go_sem] theorem F.ro177 : rowInf Tryz.prog 177 = some (9, 1, 16) := by kernel_rfl
@[go_sem] theorem F.sl177 : isSliceT Tryz.prog 177 = true := by kernel_rfl
@[go_sem] theorem F.by177 : isBytesT Tryz.prog 177 = false := by kernel_rfl
@[go_sem] theorem F.st177 : strT Tryz.prog 177 = false := by kernel_rfl
@[go_sem] theorem F.sz203 : szOf Tryz.prog 203 = some 5 := by kernel_rfl
@[go_sem] theorem F.ag203 : aggOf Tryz.prog 203 = some true := by kernel_rfl
@[go_sem] theorem F.ze203 : zeroOf Tryz.prog 203 = some [.string (str []), .int .i64 0, .int .i64 0, .int .i64 0, .int .i64 0] := by kernel_rfl
@[go_sem] theorem F.sd203 : sized Tryz.prog 203 = true := by kernel_rfl
@[go_sem] theorem F.of203_0 : offOf Tryz.prog 203 0 = some 0 := by kernel_rfl
@[go_sem] theorem F.pl203_0 : placeOf Tryz.prog 203 0 = some (0, 1) := by kernel_rfl
@[go_sem] theorem F.of203_1 : offOf Tryz.prog 203 1 = some 1 := by kernel_rfl
@[go_sem] theorem F.pl203_1 : placeOf Tryz.prog 203 1 = some (1, 2) := by kernel_rfl
@[go_sem] theorem F.of203_2 : offOf Tryz.prog 203 2 = some 3 := by kernel_rfl
@[go_sem] theorem F.pl203_2 : placeOf Tryz.prog 203 2 = some (3, 2) := by kernel_rfl
@[go_sem] theorem F.eq203 : structEq Tryz.prog 203 = some [2, 1, 1, 1, 1] := by kernel_rfl
@[go_sem] theorem F.sz209 : szOf Tryz.prog 209 = some 2 := by kernel_rfl
@[go_sem] theorem F.ag209 : aggOf Tryz.prog 209 = some true := by kernel_rfl
@[go_sem] theorem F.ze209 : zeroOf Tryz.prog 209 = some [.int .i64 0, .int .i64 0] := by kernel_rfl
@[go_sem] theorem F.sd209 : sized Tryz.prog 209 = true := by kernel_rfl
@[go_sem] theorem F.of209_0 : offOf Tryz.prog 209 0 = some 0 := by kernel_rfl
@[go_sem] theorem F.pl209_0 : placeOf Tryz.prog 209 0 = some (0, 1) := by kernel_rfl
@[go_sem] theorem F.of209_1 : offOf Tryz.prog 209 1 = some 1 := by kernel_rfl
@[go_sem] theorem F.pl209_1 : placeOf Tryz.prog 209 1 = some (1, 1) := by kernel_rfl
@[go_sem] theorem F.eq209 : structEq Tryz.prog 209 = some [1, 1] := by kernel_rfl
@[go_sem] theorem F.sz217 : szOf Tryz.prog 217 = some 1 := by kernel_rfl
@[go_sem] theorem F.ag217 : aggOf Tryz.prog 217 = some false := by kernel_rfl
@[go_sem] theorem F.ze217 : zeroOf Tryz.prog 217 = some [.pointer none] := by kernel_rfl
@[go_sem] theorem F.sz227 : szOf Tryz.prog 227 = some 1 := by kernel_rfl
@[go_sem] theorem F.ag227 : aggOf Tryz.prog 227 = some false := by kernel_rfl
@[go_sem] theorem F.ze227 : zeroOf Tryz.prog 227 = some [.pointer none] := by kernel_rfl
@[go_sem] theorem F.sz228 : szOf Tryz.prog 228 = some 1 := by kernel_rfl
@[go_sem] theorem F.ag228 : aggOf Tryz.prog 228 = some false := by kernel_rfl
@[go_sem] theorem F.ze228 : zeroOf Tryz.prog 228 = some [.nilFunc] := by kernel_rfl
@[go_sem] theorem F.sz244 : szOf Tryz.prog 244 = some 1 := by kernel_rfl
@[go_sem] theorem F.ag244 : aggOf Tryz.prog 244 = some false := by kernel_rfl
@[go_sem] theorem F.ze244 : zeroOf Tryz.prog 244 = some [.int .u64 0] := by kernel_rfl
@[go_sem] theorem F.in244 : intT Tryz.prog 244 = some .u64 := by kernel_rfl
@[go_sem] theorem F.sl244 : isSliceT Tryz.prog 244 = false := by kernel_rfl
@[go_sem] theorem F.i6244 : isI64 Tryz.prog 244 = false := by kernel_rfl
@[go_sem] theorem F.sz247 : szOf Tryz.prog 247 = some 7 := by kernel_rfl
@[go_sem] theorem F.ag247 : aggOf Tryz.prog 247 = some true := by kernel_rfl
@[go_sem] theorem F.ze247 : zeroOf Tryz.prog 247 = some [.int .i64 0, .int .i64 0, .int .i64 0, .int .i64 0, .string (str []), .int .i64 0, .int .i64 0] := by kernel_rfl
@[go_sem] theorem F.sd247 : sized Tryz.prog 247 = true := by kernel_rfl
@[go_sem] theorem F.of247_0 : offOf Tryz.prog 247 0 = some 0 := by kernel_rfl
@[go_sem] theorem F.pl247_0 : placeOf Tryz.prog 247 0 = some (0, 1) := by kernel_rfl
@[go_sem] theorem F.of247_1 : offOf Tryz.prog 247 1 = some 1 := by kernel_rfl
@[go_sem] theorem F.pl247_1 : placeOf Tryz.prog 247 1 = some (1, 3) := by kernel_rfl
@[go_sem] theorem F.of247_2 : offOf Tryz.prog 247 2 = some 4 := by kernel_rfl
@[go_sem] theorem F.pl247_2 : placeOf Tryz.prog 247 2 = some (4, 1) := by kernel_rfl
@[go_sem] theorem F.of247_3 : offOf Tryz.prog 247 3 = some 5 := by kernel_rfl
@[go_sem] theorem F.pl247_3 : placeOf Tryz.prog 247 3 = some (5, 2) := by kernel_rfl
@[go_sem] theorem F.eq247 : structEq Tryz.prog 247 = some [1, 1, 1, 1, 2, 1, 1] := by kernel_rfl
@[go_sem] theorem F.sz256 : szOf Tryz.prog 256 = some 1 := by kernel_rfl
@[go_sem] theorem F.ag256 : aggOf Tryz.prog 256 = some false := by kernel_rfl
@[go_sem] theorem F.ze256 : zeroOf Tryz.prog 256 = some [.slice none 0 0] := by kernel_rfl
@[go_sem] theorem F.el256 : elemOfSlice Tryz.prog 256 = some (1, 1) := by kernel_rfl
@[go_sem] theorem F.ro256 : rowInf Tryz.prog 256 = some (1, 1, 8) := by kernel_rfl
@[go_sem] theorem F.sl256 : isSliceT Tryz.prog 256 = true := by kernel_rfl
@[go_sem] theorem F.by256 : isBytesT Tryz.prog 256 = false := by kernel_rfl
@[go_sem] theorem F.st256 : strT Tryz.prog 256 = false := by kernel_rfl
@[go_sem] theorem F.sz269 : szOf Tryz.prog 269 = some 1 := by kernel_rfl
@[go_sem] theorem F.ag269 : aggOf Tryz.prog 269 = some false := by kernel_rfl
@[go_sem] theorem F.ze269 : zeroOf Tryz.prog 269 = some [.int .i64 0] := by kernel_rfl
@[go_sem] theorem F.in269 : intT Tryz.prog 269 = some .i64 := by kernel_rfl
@[go_sem] theorem F.sl269 : isSliceT Tryz.prog 269 = false := by kernel_rfl
@[go_sem] theorem F.i6269 : isI64 Tryz.prog 269 = true := by kernel_rfl
@[go_sem] theorem F.sz277 : szOf Tryz.prog 277 = some 1 := by kernel_rfl
@[go_sem] theorem F.ag277 : aggOf Tryz.prog 277 = some false := by kernel_rfl
@[go_sem] theorem F.ze277 : zeroOf Tryz.prog 277 = some [.int .u32 0] := by kernel_rfl
@[go_sem] theorem F.in277 : intT Tryz.prog 277 = some .u32 := by kernel_rfl
@[go_sem] theorem F.sl277 : isSliceT Tryz.prog 277 = false := by kernel_rfl
@[go_sem] theorem F.i6277 : isI64 Tryz.prog 277 = false := by kernel_rfl
@[go_sem] theorem F.sz279 : szOf Tryz.prog 279 = some 1 := by kernel_rfl
@[go_sem] theorem F.ag279 : aggOf Tryz.prog 279 = some false := by kernel_rfl
@[go_sem] theorem F.ze279 : zeroOf Tryz.prog 279 = some [.int .u64 0] := by kernel_rfl
@[go_sem] theorem F.in279 : intT Tryz.prog 279 = some .u64 := by kernel_rfl
@[go_sem] theorem F.sl279 : isSliceT Tryz.prog 279 = false := by kernel_rfl
@[go_sem] theorem F.i6279 : isI64 Tryz.prog 279 = false := by kernel_rfl
@[go_sem] theorem F.sz282 : szOf Tryz.prog 282 = some 2 := by kernel_rfl
@[go_sem] theorem F.ag282 : aggOf Tryz.prog 282 = some true := by kernel_rfl
@[go_sem] theorem F.ze282 : zeroOf Tryz.prog 282 = some [.slice none 0 0, .slice none 0 0] := by kernel_rfl
@[go_sem] theorem F.sd282 : sized Tryz.prog 282 = true := by kernel_rfl
@[go_sem] theorem F.of282_0 : offOf Tryz.prog 282 0 = some 0 := by kernel_rfl
@[go_sem] theorem F.pl282_0 : placeOf Tryz.prog 282 0 = some (0, 1) := by kernel_rfl
@[go_sem] theorem F.of282_1 : offOf Tryz.prog 282 1 = some 1 := by kernel_rfl
@[go_sem] theorem F.pl282_1 : placeOf Tryz.prog 282 1 = some (1, 1) := by kernel_rfl
@[go_sem] theorem F.sz283 : szOf Tryz.prog 283 = some 2 := by kernel_rfl
@[go_sem] theorem F.ag283 : aggOf Tryz.prog 283 = some true := by kernel_rfl
@[go_sem] theorem F.ze283 : zeroOf Tryz.prog 283 = some [.slice none 0 0, .slice none 0 0] := by kernel_rfl
@[go_sem] theorem F.sd283 : sized Tryz.prog 283 = true := by kernel_rfl
@[go_sem] theorem F.of283_0 : offOf Tryz.prog 283 0 = some 0 := by kernel_rfl
@[go_sem] theorem F.pl283_0 : placeOf Tryz.prog 283 0 = some (0, 1) := by kernel_rfl
@[go_sem] theorem F.of283_1 : offOf Tryz.prog 283 1 = some 1 := by kernel_rfl
@[go_sem] theorem F.pl283_1 : placeOf Tryz.prog 283 1 = some (1, 1) := by kernel_rfl
@[go_sem] theorem F.sz285 : szOf Tryz.prog 285 = some 1 := by kernel_rfl
@[go_sem] theorem F.ag285 : aggOf Tryz.prog 285 = some false := by kernel_rfl
@[go_sem] theorem F.ze285 : zeroOf Tryz.prog 285 = some [.slice none 0 0] := by kernel_rfl
@[go_sem] theorem F.el285 : elemOfSlice Tryz.prog 285 = some (56, 2) := by kernel_rfl
@[go_sem] theorem F.ro285 : rowInf Tryz.prog 285 = some (56, 2, 16) := by kernel_rfl
@[go_sem] theorem F.sl285 : isSliceT Tryz.prog 285 = true := by kernel_rfl
@[go_sem] theorem F.by285 : isBytesT Tryz.prog 285 = false := by kernel_rfl
@[go_sem] theorem F.st285 : strT Tryz.prog 285 = false := by kernel_rfl
@[go_sem] theorem F.sz289 : szOf Tryz.prog 289 = some 1 := by kernel_rfl
@[go_sem] theorem F.ag289 : aggOf Tryz.prog 289 = some false := by kernel_rfl
@[go_sem] theorem F.ze289 : zeroOf Tryz.prog 289 = some [.int .u64 0] := by kernel_rfl
@[go_sem] theorem F.in289 : intT Tryz.prog 289 = some .u64 := by kernel_rfl
@[go_sem] theorem F.sl289 : isSliceT Tryz.prog 289 = false := by kernel_rfl
@[go_sem] theorem F.i6289 : isI64 Tryz.prog 289 = false := by kernel_rfl
@[go_sem] theorem F.sz294 : szOf Tryz.prog 294 = some 1 := by kernel_rfl
@[go_sem] theorem F.ag294 : aggOf Tryz.prog 294 = some false := by kernel_rfl
@[go_sem] theorem F.ze294 : zeroOf Tryz.prog 294 = some [.slice none 0 0] := by kernel_rfl
@[go_sem] theorem F.el294 : elemOfSlice Tryz.prog 294 = some (90, 1) := by kernel_rfl
@[go_sem] theorem F.ro294 : rowInf Tryz.prog 294 = some (90, 1, 24) := by kernel_rfl
@[go_sem] theorem F.sl294 : isSliceT Tryz.prog 294 = true := by kernel_rfl
@[go_sem] theorem F.by294 : isBytesT Tryz.prog 294 = false := by kernel_rfl
@[go_sem] theorem F.st294 : strT Tryz.prog 294 = false := by kernel_rfl
@[go_sem] theorem F.sz298 : szOf Tryz.prog 298 = some 6 := by kernel_rfl
@[go_sem] theorem F.ag298 : aggOf Tryz.prog 298 = some true := by kernel_rfl
@[go_sem] theorem F.ze298 : zeroOf Tryz.prog 298 = some [.bool false, .bool false, .bool false, .bool false, .bool false, .bool false] := by kernel_rfl
@[go_sem] theorem F.el298 : elemOfSlice Tryz.prog 298 = none := by kernel_rfl
@[go_sem] theorem F.ar298 : elemOfArray Tryz.prog 298 = some (6, 1) := by kernel_rfl
@[go_sem] theorem F.ei298 : elemInf Tryz.prog 298 = some (6, 1, false) := by kernel_rfl
@[go_sem] theorem F.sd298 : sized Tryz.prog 298 = true := by kernel_rfl
@[go_sem] theorem F.pl298_0 : placeOf Tryz.prog 298 0 = some (0, 1) := by kernel_rfl
@[go_sem] theorem F.pl298_1 : placeOf Tryz.prog 298 1 = some (1, 1) := by kernel_rfl
@[go_sem] theorem F.pl298_2 : placeOf Tryz.prog 298 2 = some (2, 1) := by kernel_rfl
@[go_sem] theorem F.pl298_3 : placeOf Tryz.prog 298 3 = some (3, 1) := by kernel_rfl
@[go_sem] theorem F.pl298_4 : placeOf Tryz.prog 298 4 = some (4, 1) := by kernel_rfl
@[go_sem] theorem F.pl298_5 : placeOf Tryz.prog 298 5 = some (5, 1) := by kernel_rfl
@[go_sem] theorem F.sz301 : szOf Tryz.prog 301 = some 5 := by kernel_rfl
@[go_sem] theorem F.ag301 : aggOf Tryz.prog 301 = some true := by kernel_rfl
@[go_sem] theorem F.ze301 : zeroOf Tryz.prog 301 = some [.bool false, .bool false, .bool false, .bool false, .bool false] := by kernel_rfl
@[go_sem] theorem F.el301 : elemOfSlice Tryz.prog 301 = none := by kernel_rfl
@[go_sem] theorem F.ar301 : elemOfArray Tryz.prog 301 = some (5, 1) := by kernel_rfl
@[go_sem] theorem F.ei301 : elemInf Tryz.prog 301 = some (5, 1, false) := by kernel_rfl
@[go_sem] theorem F.sd301 : sized Tryz.prog 301 = true := by kernel_rfl
@[go_sem] theorem F.pl301_0 : placeOf Tryz.prog 301 0 = some (0, 1) := by kernel_rfl
@[go_sem] theorem F.pl301_1 : placeOf Tryz.prog 301 1 = some (1, 1) := by kernel_rfl
@[go_sem] theorem F.pl301_2 : placeOf Tryz.prog 301 2 = some (2, 1) := by kernel_rfl
@[go_sem] theorem F.pl301_3 : placeOf Tryz.prog 301 3 = some (3, 1) := by kernel_rfl
@[go_sem] theorem F.pl301_4 : placeOf Tryz.prog 301 4 = some (4, 1) := by kernel_rfl
@[go_sem] theorem F.sz302 : szOf Tryz.prog 302 = some 25 := by kernel_rfl
@[go_sem] theorem F.ag302 : aggOf Tryz.prog 302 = some true := by kernel_rfl
@[go_sem] theorem F.ze302 : zeroOf Tryz.prog 302 = some [.bool false, .bool false, .bool false, .bool false, .bool false, .bool false, .bool false, .bool false, .bool false, .bool false, .bool false, .bool false, .bool false, .bool false, .bool false, .bool false, .bool false, .bool false, .bool false, .bool false, .bool false, .bool false, .bool false, .bool false, .bool false] := by kernel_rfl
@[go_sem] theorem F.el302 : elemOfSlice Tryz.prog 302 = none := by kernel_rfl
@[go_sem] theorem F.ar302 : elemOfArray Tryz.prog 302 = some (5, 5) := by kernel_rfl
@[go_sem] theorem F.ei302 : elemInf Tryz.prog 302 = some (5, 5, true) := by kernel_rfl
@[go_sem] theorem F.sd302 : sized Tryz.prog 302 = true := by kernel_rfl
@[go_sem] theorem F.pl302_0 : placeOf Tryz.prog 302 0 = some (0, 5) := by kernel_rfl
@[go_sem] theorem F.pl302_1 : placeOf Tryz.prog 302 1 = some (5, 5) := by kernel_rfl
@[go_sem] theorem F.pl302_2 : placeOf Tryz.prog 302 2 = some (10, 5) := by kernel_rfl
@[go_sem] theorem F.pl302_3 : placeOf Tryz.prog 302 3 = some (15, 5) := by kernel_rfl
@[go_sem] theorem F.pl302_4 : placeOf Tryz.prog 302 4 = some (20, 5) := by kernel_rfl
end Go.Rd
