/- part 10 of the proof -/
import Derived.Test.YteliegkcmjimoaaGreatDoorProg
import Derived.Lib.TrailingZeros
import Derived.Test.YteliegkcmjimoaaGreatDoorV09
set_option linter.all false
open Go Go.Abs Go.Proofs
set_option maxRecDepth 100000
namespace Go.Rd
set_option maxHeartbeats 8000000
open List (map_cons take_add_one take_length)
open Option (isSome_some)
open Nat (mul_one)
open Tryz
attribute [go_sem] if_pos wrap64 Int.natCast_add
theorem B7:prog.follows .mixedOrders=true:=by kernel_rfl
@[go_sem] theorem F.sz1:BW prog 1=some 1/\Be prog 1=some false/\zeroOf prog 1=some [.nilFunc]:=⟨by kernel_rfl,by kernel_rfl,by kernel_rfl⟩
@[go_sem] theorem F.iQ:BW prog 3=some 1/\Be prog 3=some false/\zeroOf prog 3=some [.int .i64 0]/\Vg prog 3=some .i64/\AJ prog 3=false:=⟨by kernel_rfl,by kernel_rfl,by kernel_rfl,by kernel_rfl,by kernel_rfl⟩
@[go_sem] theorem F.i63:eU prog 3=true:=by kernel_rfl
@[go_sem] theorem F.sz4:BW prog 4=some 1/\Be prog 4=some false/\zeroOf prog 4=some [.bool false]:=⟨by kernel_rfl,by kernel_rfl,by kernel_rfl⟩
@[go_sem] theorem F.sz5:BW prog 5=some 1:=by kernel_rfl
@[go_sem] theorem F.ag5:Be prog 5=some false:=by kernel_rfl
@[go_sem] theorem F.in5:Vg prog 5=some .u8:=by kernel_rfl
@[go_sem] theorem F.sz9:BW prog 9=some 1/\Be prog 9=some false/\zeroOf prog 9=some [.string (str [])]/\LK prog 9=true:=⟨by kernel_rfl,by kernel_rfl,by kernel_rfl,by kernel_rfl⟩
@[go_sem] theorem F.Afn:BW prog 22=some 1/\Be prog 22=some false/\As prog 22=some (65,8)/\Bz prog 22=some (65,8,120)/\AJ prog 22=true:=⟨by kernel_rfl,by kernel_rfl,by kernel_rfl,by kernel_rfl,by kernel_rfl⟩
@[go_sem] theorem F.Afo:BW prog 23=some 1/\Be prog 23=some false/\As prog 23=some (75,9)/\Bz prog 23=some (75,9,96)/\AJ prog 23=true:=⟨by kernel_rfl,by kernel_rfl,by kernel_rfl,by kernel_rfl,by kernel_rfl⟩
@[go_sem] theorem F.Afp:BW prog 25=some 2/\Be prog 25=some true/\zeroOf prog 25=some [.slice none 0 0,.slice none 0 0]/\sized prog 25=true/\Bk prog 25 0=some 0/\placeOf prog 25 0=some (0,1)/\Bk prog 25 1=some 1/\placeOf prog 25 1=some (1,1):=⟨by kernel_rfl,by kernel_rfl,by kernel_rfl,by kernel_rfl,by kernel_rfl,by kernel_rfl,by kernel_rfl,by kernel_rfl⟩
@[go_sem] theorem F.Afq:BW prog 26=some 1/\Be prog 26=some false/\As prog 26=some (51,3)/\Bz prog 26=some (51,3,24)/\AJ prog 26=true:=⟨by kernel_rfl,by kernel_rfl,by kernel_rfl,by kernel_rfl,by kernel_rfl⟩
@[go_sem] theorem F.Afr:BW prog 27=some 1/\Be prog 27=some false/\As prog 27=some (3,1)/\Bz prog 27=some (3,1,8)/\AJ prog 27=true:=⟨by kernel_rfl,by kernel_rfl,by kernel_rfl,by kernel_rfl,by kernel_rfl⟩
@[go_sem] theorem F.AdN:As prog 38=some (54,6)/\Bz prog 38=some (54,6,64)/\AJ prog 38=true:=⟨by kernel_rfl,by kernel_rfl,by kernel_rfl⟩
@[go_sem] theorem F.Afs:BW prog 46=some 2/\Be prog 46=some true/\zeroOf prog 46=some [.slice none 0 0,.int .i64 0]/\sized prog 46=true/\Bk prog 46 0=some 0/\placeOf prog 46 0=some (0,1)/\Bk prog 46 1=some 1/\placeOf prog 46 1=some (1,1):=⟨by kernel_rfl,by kernel_rfl,by kernel_rfl,by kernel_rfl,by kernel_rfl,by kernel_rfl,by kernel_rfl,by kernel_rfl⟩
@[go_sem] theorem F.Ab0:BW prog 51=some 3:=by kernel_rfl
@[go_sem] theorem F.Aal:Be prog 51=some true:=by kernel_rfl
@[go_sem] theorem F.AfK:zeroOf prog 51=some [.int .i64 0,.int .i64 0,.int .i64 0]/\sized prog 51=true/\Bk prog 51 0=some 0/\placeOf prog 51 0=some (0,1)/\Bk prog 51 1=some 1/\placeOf prog 51 1=some (1,1)/\Bk prog 51 2=some 2/\placeOf prog 51 2=some (2,1)/\structEq prog 51=some [1,1,1]:=⟨by kernel_rfl,by kernel_rfl,by kernel_rfl,by kernel_rfl,by kernel_rfl,by kernel_rfl,by kernel_rfl,by kernel_rfl,by kernel_rfl⟩
@[go_sem] theorem F.Afu:BW prog 52=some 1/\Be prog 52=some false/\zeroOf prog 52=some [.slice none 0 0]/\As prog 52=some (70,3)/\Bz prog 52=some (70,3,32)/\AJ prog 52=true:=⟨by kernel_rfl,by kernel_rfl,by kernel_rfl,by kernel_rfl,by kernel_rfl,by kernel_rfl⟩
@[go_sem] theorem F.Afv:BW prog 54=some 6/\Be prog 54=some true/\zeroOf prog 54=some [.int .i64 0,.int .i64 0,.int .i64 0,.int .i64 0,.int .i64 0,.slice none 0 0]/\sized prog 54=true/\Bk prog 54 0=some 0/\placeOf prog 54 0=some (0,3)/\Bk prog 54 1=some 3/\placeOf prog 54 1=some (3,1)/\Bk prog 54 2=some 4/\placeOf prog 54 2=some (4,1)/\Bk prog 54 3=some 5/\placeOf prog 54 3=some (5,1):=⟨by kernel_rfl,by kernel_rfl,by kernel_rfl,by kernel_rfl,by kernel_rfl,by kernel_rfl,by kernel_rfl,by kernel_rfl,by kernel_rfl,by kernel_rfl,by kernel_rfl,by kernel_rfl⟩
@[go_sem] theorem F.Afw:BW prog 61=some 4/\Be prog 61=some true/\zeroOf prog 61=some [.string (str []),.int .i64 0,.int .i64 0,.int .i64 0]/\sized prog 61=true/\Bk prog 61 0=some 0/\placeOf prog 61 0=some (0,1)/\Bk prog 61 1=some 1/\placeOf prog 61 1=some (1,1)/\Bk prog 61 2=some 2/\placeOf prog 61 2=some (2,1)/\Bk prog 61 3=some 3/\placeOf prog 61 3=some (3,1):=⟨by kernel_rfl,by kernel_rfl,by kernel_rfl,by kernel_rfl,by kernel_rfl,by kernel_rfl,by kernel_rfl,by kernel_rfl,by kernel_rfl,by kernel_rfl,by kernel_rfl,by kernel_rfl⟩
@[go_sem] theorem F.Afx:BW prog 62=some 1/\Be prog 62=some false/\As prog 62=some (119,5)/\Bz prog 62=some (119,5,40)/\AJ prog 62=true:=⟨by kernel_rfl,by kernel_rfl,by kernel_rfl,by kernel_rfl,by kernel_rfl⟩
@[go_sem] theorem F.Afy:BW prog 63=some 1/\Be prog 63=some false/\zeroOf prog 63=some [.slice none 0 0]/\As prog 63=some (121,7)/\Bz prog 63=some (121,7,56)/\AJ prog 63=true:=⟨by kernel_rfl,by kernel_rfl,by kernel_rfl,by kernel_rfl,by kernel_rfl,by kernel_rfl⟩
@[go_sem] theorem F.Afz:BW prog 65=some 8/\Be prog 65=some true/\zeroOf prog 65=some [.string (str []),.int .i64 0,.int .i64 0,.int .i64 0,.slice none 0 0,.slice none 0 0,.slice none 0 0,.int .i64 0]/\sized prog 65=true/\Bk prog 65 0=some 0/\placeOf prog 65 0=some (0,4)/\Bk prog 65 1=some 4/\placeOf prog 65 1=some (4,1)/\Bk prog 65 2=some 5/\Bk prog 65 3=some 6/\placeOf prog 65 3=some (6,1)/\Bk prog 65 4=some 7:=⟨by kernel_rfl,by kernel_rfl,by kernel_rfl,by kernel_rfl,by kernel_rfl,by kernel_rfl,by kernel_rfl,by kernel_rfl,by kernel_rfl,by kernel_rfl,by kernel_rfl,by kernel_rfl⟩
@[go_sem] theorem F.AfA:BW prog 68=some 2/\Be prog 68=some true/\zeroOf prog 68=some [.int .i64 0,.int .i64 0]/\sized prog 68=true/\Bk prog 68 0=some 0/\placeOf prog 68 0=some (0,1)/\Bk prog 68 1=some 1/\placeOf prog 68 1=some (1,1)/\structEq prog 68=some [1,1]:=⟨by kernel_rfl,by kernel_rfl,by kernel_rfl,by kernel_rfl,by kernel_rfl,by kernel_rfl,by kernel_rfl,by kernel_rfl,by kernel_rfl⟩
@[go_sem] theorem F.AfB:BW prog 70=some 3/\Be prog 70=some true/\zeroOf prog 70=some [.string (str []),.int .i64 0,.int .i64 0]/\sized prog 70=true/\Bk prog 70 0=some 0/\placeOf prog 70 0=some (0,1)/\Bk prog 70 1=some 1/\placeOf prog 70 1=some (1,2)/\structEq prog 70=some [2,1,1]:=⟨by kernel_rfl,by kernel_rfl,by kernel_rfl,by kernel_rfl,by kernel_rfl,by kernel_rfl,by kernel_rfl,by kernel_rfl,by kernel_rfl⟩
@[go_sem] theorem F.AfC:BW prog 71=some 1/\Be prog 71=some false/\As prog 71=some (73,5)/\Bz prog 71=some (73,5,64)/\AJ prog 71=true:=⟨by kernel_rfl,by kernel_rfl,by kernel_rfl,by kernel_rfl,by kernel_rfl⟩
@[go_sem] theorem F.AfD:BW prog 73=some 5/\Be prog 73=some true/\zeroOf prog 73=some [.int .i64 0,.string (str []),.int .i64 0,.int .i64 0,.slice none 0 0]/\sized prog 73=true/\Bk prog 73 0=some 0/\placeOf prog 73 0=some (0,1)/\Bk prog 73 1=some 1/\placeOf prog 73 1=some (1,3)/\Bk prog 73 2=some 4:=⟨by kernel_rfl,by kernel_rfl,by kernel_rfl,by kernel_rfl,by kernel_rfl,by kernel_rfl,by kernel_rfl,by kernel_rfl,by kernel_rfl⟩
@[go_sem] theorem F.AfE:BW prog 75=some 9/\Be prog 75=some true/\zeroOf prog 75=some [.int .i64 0,.int .i64 0,.int .i64 0,.int .i64 0,.string (str []),.int .i64 0,.int .i64 0,.slice none 0 0,.int .i64 0]/\sized prog 75=true/\Bk prog 75 0=some 0/\placeOf prog 75 0=some (0,3)/\Bk prog 75 1=some 3/\placeOf prog 75 1=some (3,5)/\Bk prog 75 2=some 8/\placeOf prog 75 2=some (8,1):=⟨by kernel_rfl,by kernel_rfl,by kernel_rfl,by kernel_rfl,by kernel_rfl,by kernel_rfl,by kernel_rfl,by kernel_rfl,by kernel_rfl,by kernel_rfl⟩
@[go_sem] theorem F.AfF:BW prog 79=some 1/\Be prog 79=some false/\As prog 79=some (132,16)/\Bz prog 79=some (132,16,184)/\AJ prog 79=true:=⟨by kernel_rfl,by kernel_rfl,by kernel_rfl,by kernel_rfl,by kernel_rfl⟩
@[go_sem] theorem F.AfG:BW prog 81=some 3/\Be prog 81=some true/\zeroOf prog 81=some [.int .i64 0,.slice none 0 0,.slice none 0 0]/\sized prog 81=true/\Bk prog 81 0=some 0/\Bk prog 81 1=some 1/\placeOf prog 81 1=some (1,1)/\Bk prog 81 2=some 2:=⟨by kernel_rfl,by kernel_rfl,by kernel_rfl,by kernel_rfl,by kernel_rfl,by kernel_rfl,by kernel_rfl,by kernel_rfl⟩
@[go_sem high] theorem F.Aaq:prog.concrete 92=true:=by kernel_rfl
@[go_sem] theorem F.zS:MM prog 92 "Len" = some (47,some 97)/\MM prog 92 "Less" = some (320,some 97)/\MM prog 92 "Pop" = some (321,none)/\MM prog 92 "Push" = some (322,none)/\MM prog 92 "Swap" = some (323,some 97):=⟨by kernel_rfl,by kernel_rfl,by kernel_rfl,by kernel_rfl,by kernel_rfl⟩
@[go_sem] theorem F.AfH:BW prog 93=some 1/\Be prog 93=some false/\Vg prog 93=some .u64:=⟨by kernel_rfl,by kernel_rfl,by kernel_rfl⟩
@[go_sem] theorem F.AfI:BW prog 95=some 2/\Be prog 95=some true/\zeroOf prog 95=some [.int .i64 0,.int .u64 0]:=⟨by kernel_rfl,by kernel_rfl,by kernel_rfl⟩
@[go_sem high] theorem F.Aar:prog.concrete 95=true:=by kernel_rfl
@[go_sem] theorem F.Afk:sized prog 95=true/\Bk prog 95 0=some 0/\placeOf prog 95 0=some (0,1)/\Bk prog 95 1=some 1/\placeOf prog 95 1=some (1,1):=⟨by kernel_rfl,by kernel_rfl,by kernel_rfl,by kernel_rfl,by kernel_rfl⟩
@[go_sem] theorem F.AfJ:BW prog 97=some 1/\Be prog 97=some false/\As prog 97=some (95,2)/\Bz prog 97=some (95,2,16)/\AJ prog 97=true:=⟨by kernel_rfl,by kernel_rfl,by kernel_rfl,by kernel_rfl,by kernel_rfl⟩
@[go_sem] theorem F.Adm:BW prog 119=some 5/\Be prog 119=some true/\zeroOf prog 119=some [.int .i64 0,.int .i64 0,.int .i64 0,.int .i64 0,.int .i64 0]/\sized prog 119=true/\Bk prog 119 0=some 0/\placeOf prog 119 0=some (0,3)/\Bk prog 119 1=some 3/\placeOf prog 119 1=some (3,2):=⟨by kernel_rfl,by kernel_rfl,by kernel_rfl,by kernel_rfl,by kernel_rfl,by kernel_rfl,by kernel_rfl,by kernel_rfl⟩
@[go_sem] theorem F.Adn:BW prog 121=some 7/\Be prog 121=some true/\zeroOf prog 121=some [.int .i64 0,.int .i64 0,.int .i64 0,.int .i64 0,.int .i64 0,.int .i64 0,.int .i64 0]/\sized prog 121=true/\Bk prog 121 0=some 0/\placeOf prog 121 0=some (0,3)/\Bk prog 121 1=some 3/\placeOf prog 121 1=some (3,2)/\Bk prog 121 2=some 5/\placeOf prog 121 2=some (5,1)/\Bk prog 121 3=some 6:=⟨by kernel_rfl,by kernel_rfl,by kernel_rfl,by kernel_rfl,by kernel_rfl,by kernel_rfl,by kernel_rfl,by kernel_rfl,by kernel_rfl,by kernel_rfl,by kernel_rfl⟩
@[go_sem] theorem F.Ado:BW prog 125=some 1/\Be prog 125=some false/\As prog 125=some (252,5)/\Bz prog 125=some (252,5,48)/\AJ prog 125=true:=⟨by kernel_rfl,by kernel_rfl,by kernel_rfl,by kernel_rfl,by kernel_rfl⟩
@[go_sem] theorem F.Adp:BW prog 126=some 1/\Be prog 126=some false/\As prog 126=some (205,2)/\Bz prog 126=some (205,2,16)/\AJ prog 126=true:=⟨by kernel_rfl,by kernel_rfl,by kernel_rfl,by kernel_rfl,by kernel_rfl⟩
@[go_sem] theorem F.Adq:BW prog 128=some 2/\Be prog 128=some true/\zeroOf prog 128=some [.slice none 0 0,.slice none 0 0]/\sized prog 128=true/\Bk prog 128 0=some 0/\placeOf prog 128 0=some (0,1)/\Bk prog 128 1=some 1/\placeOf prog 128 1=some (1,1):=⟨by kernel_rfl,by kernel_rfl,by kernel_rfl,by kernel_rfl,by kernel_rfl,by kernel_rfl,by kernel_rfl,by kernel_rfl⟩
@[go_sem] theorem F.Adr:BW prog 130=some 7/\Be prog 130=some true/\zeroOf prog 130=some [.int .i64 0,.string (str []),.int .i64 0,.int .i64 0,.slice none 0 0,.int .i64 0,.int .i64 0]/\sized prog 130=true/\Bk prog 130 0=some 0/\Bk prog 130 1=some 5/\placeOf prog 130 1=some (5,1)/\Bk prog 130 2=some 6:=⟨by kernel_rfl,by kernel_rfl,by kernel_rfl,by kernel_rfl,by kernel_rfl,by kernel_rfl,by kernel_rfl,by kernel_rfl⟩
@[go_sem] theorem F.Ads:BW prog 132=some 16/\Be prog 132=some true/\zeroOf prog 132=some [.int .i64 0,.int .i64 0,.int .i64 0,.int .i64 0,.slice none 0 0,.slice none 0 0,.bool false,.int .i64 0,.string (str []),.int .i64 0,.int .i64 0,.slice none 0 0,.int .i64 0,.int .i64 0,.int .i64 0,.int .i64 0]/\sized prog 132=true/\Bk prog 132 0=some 0/\placeOf prog 132 0=some (0,3)/\Bk prog 132 1=some 3/\placeOf prog 132 1=some (3,1)/\Bk prog 132 2=some 4/\Bk prog 132 3=some 6/\Bk prog 132 4=some 7/\Bk prog 132 5=some 14:=⟨by kernel_rfl,by kernel_rfl,by kernel_rfl,by kernel_rfl,by kernel_rfl,by kernel_rfl,by kernel_rfl,by kernel_rfl,by kernel_rfl,by kernel_rfl,by kernel_rfl,by kernel_rfl⟩
@[go_sem] theorem F.zW:Bk prog 132 6=some 15:=by kernel_rfl
@[go_sem] theorem F.Acd:As prog 133=some (61,4)/\Bz prog 133=some (61,4,40)/\AJ prog 133=true:=⟨by kernel_rfl,by kernel_rfl,by kernel_rfl⟩
@[go_sem] theorem F.Ace:As prog 134=some (180,13)/\Bz prog 134=some (180,13,136)/\AJ prog 134=true:=⟨by kernel_rfl,by kernel_rfl,by kernel_rfl⟩
@[go_sem] theorem F.Adt:BW prog 151=some 1/\Be prog 151=some false/\zeroOf prog 151=some [.map none]:=⟨by kernel_rfl,by kernel_rfl,by kernel_rfl⟩
@[go_sem] theorem F.rU:ZR prog 151=some (3,false,[1],4):=by kernel_rfl
@[go_sem] theorem F.Ac3:Vg prog 159=some .u64:=by kernel_rfl
@[go_sem] theorem F.Ab5:Be prog 176=some true/\zeroOf prog 176=some [.slice none 0 0,.int .i64 0]/\sized prog 176=true/\Bk prog 176 0=some 0/\placeOf prog 176 0=some (0,1)/\Bk prog 176 1=some 1:=⟨by kernel_rfl,by kernel_rfl,by kernel_rfl,by kernel_rfl,by kernel_rfl,by kernel_rfl⟩
@[go_sem] theorem F.Adu:BW prog 180=some 13/\Be prog 180=some true/\zeroOf prog 180=some [.int .i64 0,.int .i64 0,.int .i64 0,.int .i64 0,.int .i64 0,.string (str []),.int .i64 0,.int .i64 0,.slice none 0 0,.int .i64 0,.int .i64 0,.string (str []),.int .i64 0]/\sized prog 180=true/\Bk prog 180 0=some 0/\placeOf prog 180 0=some (0,1)/\Bk prog 180 1=some 1/\placeOf prog 180 1=some (1,3)/\Bk prog 180 2=some 4/\Bk prog 180 3=some 11/\Bk prog 180 4=some 12/\placeOf prog 180 4=some (12,1):=⟨by kernel_rfl,by kernel_rfl,by kernel_rfl,by kernel_rfl,by kernel_rfl,by kernel_rfl,by kernel_rfl,by kernel_rfl,by kernel_rfl,by kernel_rfl,by kernel_rfl,by kernel_rfl⟩
@[go_sem] theorem F.Adv:BW prog 184=some 1/\Be prog 184=some false/\Bz prog 184=some (323,7,64)/\AJ prog 184=true:=⟨by kernel_rfl,by kernel_rfl,by kernel_rfl,by kernel_rfl⟩
@[go_sem] theorem F.Adw:BW prog 192=some 3/\Be prog 192=some true/\zeroOf prog 192=some [.int .i64 0,.int .i64 0,.int .i64 0]/\As prog 192=none/\Dj prog 192=some (3,1)/\SA prog 192=some (3,1,false)/\sized prog 192=true/\placeOf prog 192 0=some (0,1)/\placeOf prog 192 1=some (1,1)/\placeOf prog 192 2=some (2,1):=⟨by kernel_rfl,by kernel_rfl,by kernel_rfl,by kernel_rfl,by kernel_rfl,by kernel_rfl,by kernel_rfl,by kernel_rfl,by kernel_rfl,by kernel_rfl⟩
@[go_sem] theorem F.Adx:BW prog 205=some 2/\Be prog 205=some true/\zeroOf prog 205=some [.int .i64 0,.int .i64 0]/\sized prog 205=true/\Bk prog 205 0=some 0/\placeOf prog 205 0=some (0,1)/\Bk prog 205 1=some 1/\placeOf prog 205 1=some (1,1):=⟨by kernel_rfl,by kernel_rfl,by kernel_rfl,by kernel_rfl,by kernel_rfl,by kernel_rfl,by kernel_rfl,by kernel_rfl⟩
@[go_sem] theorem F.Ady:BW prog 217=some 1/\Be prog 217=some false/\As prog 217=some (4,1)/\Bz prog 217=some (4,1,1)/\AJ prog 217=true:=⟨by kernel_rfl,by kernel_rfl,by kernel_rfl,by kernel_rfl,by kernel_rfl⟩
@[go_sem] theorem F.Acg:As prog 229=some (9,1)/\Bz prog 229=some (9,1,16)/\AJ prog 229=true:=⟨by kernel_rfl,by kernel_rfl,by kernel_rfl⟩
@[go_sem] theorem F.Ab6:Be prog 235=some true/\zeroOf prog 235=some [.int .i64 0,.slice none 0 0,.slice none 0 0,.slice none 0 0]/\sized prog 235=true/\Bk prog 235 0=some 0/\placeOf prog 235 0=some (0,3)/\Bk prog 235 1=some 3:=⟨by kernel_rfl,by kernel_rfl,by kernel_rfl,by kernel_rfl,by kernel_rfl,by kernel_rfl⟩
@[go_sem] theorem F.Adz:BW prog 252=some 5/\Be prog 252=some true/\zeroOf prog 252=some [.string (str []),.int .i64 0,.int .i64 0,.int .i64 0,.int .i64 0]/\sized prog 252=true/\Bk prog 252 0=some 0/\placeOf prog 252 0=some (0,1)/\Bk prog 252 1=some 1/\placeOf prog 252 1=some (1,2)/\Bk prog 252 2=some 3/\placeOf prog 252 2=some (3,2):=⟨by kernel_rfl,by kernel_rfl,by kernel_rfl,by kernel_rfl,by kernel_rfl,by kernel_rfl,by kernel_rfl,by kernel_rfl,by kernel_rfl,by kernel_rfl⟩
@[go_sem] theorem F.Ach:As prog 276=some (1,1)/\Bz prog 276=some (1,1,8)/\AJ prog 276=true:=⟨by kernel_rfl,by kernel_rfl,by kernel_rfl⟩
@[go_sem] theorem F.Aci:As prog 291=some (68,2)/\Bz prog 291=some (68,2,16)/\AJ prog 291=true:=⟨by kernel_rfl,by kernel_rfl,by kernel_rfl⟩
@[go_sem] theorem F.Ab7:Be prog 312=some true/\zeroOf prog 312=some [.slice none 0 0,.slice none 0 0]/\sized prog 312=true/\Bk prog 312 0=some 0/\placeOf prog 312 0=some (0,1)/\Bk prog 312 1=some 1/\placeOf prog 312 1=some (1,1):=⟨by kernel_rfl,by kernel_rfl,by kernel_rfl,by kernel_rfl,by kernel_rfl,by kernel_rfl,by kernel_rfl⟩
@[go_sem] theorem F.AdA:BW prog 320=some 6/\Be prog 320=some true/\zeroOf prog 320=some [.bool false,.bool false,.bool false,.bool false,.bool false,.bool false]/\As prog 320=none/\Dj prog 320=some (6,1)/\SA prog 320=some (6,1,false):=⟨by kernel_rfl,by kernel_rfl,by kernel_rfl,by kernel_rfl,by kernel_rfl,by kernel_rfl⟩
@[go_sem] theorem F.Ab8:Be prog 323=some true/\zeroOf prog 323=some [.int .i64 0,.int .i64 0,.int .i64 0,.int .i64 0,.string (str []),.int .i64 0,.int .i64 0]/\sized prog 323=true/\placeOf prog 323 0=some (0,1)/\placeOf prog 323 1=some (1,3)/\placeOf prog 323 2=some (4,1)/\placeOf prog 323 3=some (5,2):=⟨by kernel_rfl,by kernel_rfl,by kernel_rfl,by kernel_rfl,by kernel_rfl,by kernel_rfl,by kernel_rfl⟩
@[go_sem] theorem F.Acj:As prog 330=some (63,1)/\Bz prog 330=some (63,1,24)/\AJ prog 330=true:=⟨by kernel_rfl,by kernel_rfl,by kernel_rfl⟩
@[go_sem] theorem F.Ack:As prog 336=none/\Dj prog 336=some (5,1):=⟨by kernel_rfl,by kernel_rfl⟩
@[go_sem] theorem F.Acl:As prog 337=none/\Dj prog 337=some (5,5):=⟨by kernel_rfl,by kernel_rfl⟩
@[go_sem] theorem F.Acf:As prog 210=none/\Dj prog 210=some (64,1):=⟨by kernel_rfl,by kernel_rfl⟩
def vp:List Bool:=[true,true,true,true,false,true,true,false,false,false,true,false,true,false,false,true,false,false,false,false,false,false,false,false,false]
def C5(l:List Bool):List AV:=l.map λb=>.v (.bool b)
@[go_sem] theorem sr(S T:List Nat)(l:List Bool):EK S T (C5 l)=C5 l:=by
 induction l with
 | nil=>rfl
 | cons x l ih=>simp only[C5,map_cons,EK,AV.kill]at ih ⊢;rw[ih]
@[go_sem] theorem vz(ρ:Rn)(l:List Bool):E2 ρ (C5 l)=C5 l:=by
 induction l with
 | nil=>rfl
 | cons x l ih=>simp only[C5,map_cons,E2,AV.BS]at ih ⊢;rw[ih]
@[go_sem] theorem vy(l:List Bool):(C5 l).length=l.length:=by simp[C5]
theorem QA(l:List Bool)(k:Nat)(h:k<l.length):((C5 l).drop k).take 1=[.v (.bool (l.getD k false))]:=by
 rw[List.drop_eq_getElem_cons (by simpa [C5]using h)];simp[C5,List.getD,h]
def tog:List AV:=C5 vp
def sF:List AV:=Go.Lib.deBruijn64tab.map λn=>.v (.int .u8 (n:Nat))
noncomputable abbrev C0:Ctx:=⟨prog,λi=>if i=1 then some tog else if i=0 then some sF else none⟩
@[go_sem] theorem Acn(st:St):ev C0 st (.global 1)=.ep .no 0 tog 0:=rfl
@[go_sem] theorem Aco(st:St):ev C0 st (.global 0)=.ep .no 0 sF 0:=rfl
def AL(n a b:Int):Bool:=decide (a<=n)&&decide (n<=b)
def Xn(n a b:Int):Ac C0 121 [I n,I a,I b] [] (B (AL n a b)) []:=by
 refine Ac.go f121 ?_;unfold f121;refine gO ?_;refine⟨λh=>?_,λh=>?_⟩
 ·refine Aj _ ?_;exact .eq (by simp[AL,h])
 ·refine Aj _ ?_;exact .eq (by simp[AL,h])
def Ad.ok(p:Ad):Bool:=AL p.site 0 3&&AL p.inc 1 99&&AL p.num 1 999
def TH(p:Ad):Ac C0 72 [.agg p.c] [] (B p.ok) []:=by
 refine Ac.go f72 ?_;unfold f72;refine gO ?_;refine Ab (Xn p.site 0 3) ?_;refine gO ?_;refine⟨λh=>?_,λh=>?_⟩
 ·refine Ab (Xn p.inc 1 99) ?_;refine gO ?_;refine⟨λh2=>?_,λh2=>?_⟩
  ·refine Ab (Xn p.num 1 999) ?_;refine gO ?_;refine Aj _ ?_;exact .eq (by simp[Ad.ok,h,h2])
  ·refine Aj _ ?_;exact .eq (by simp[Ad.ok,h,h2])
 ·refine Aj _ ?_;exact .eq (by simp[Ad.ok,h])
def Bw(p q:Ad):Int:=if p.site<q.site then -1 else if q.site<p.site then 1 else if p.inc<q.inc then -1 else if q.inc<p.inc then 1 else if p.num<q.num then -1 else if q.num<p.num then 1 else 0
def nG(p q:Ad):Ac C0 124 [.agg p.c,.agg q.c] [] (I (Bw p q)) []:=by
 refine Ac.go f124 ?_;unfold f124;refine gO ?_;refine Ao (α:=Nat) (λi=>⟨[(8,I i),(7,.agg p.c),(3,.ptr 192 0)],[(192,q.c)]⟩) (λi=>i<=3/\(1<=i->p.site=q.site)/\(2<=i->p.inc=q.inc)/\(3<=i->p.num=q.num)) (λi=>3-i) 0 (by simp) ?_ ?_
 ·exact AQ.An gI gI
 rintro i ⟨hi,h1,h2,h3⟩ J hJ;obtain rfl|rfl|rfl|rfl:i=0\/i=1\/i=2\/i=3:=by omega
 ·simp(disch:=omega)only[go_sem];refine⟨λh=>?_,λh=>⟨λh'=>?_,λh'=>?_⟩⟩
  ·refine Aj _ ?_;exact .eq (by simp at h;simp[Bw,h])
  ·refine Aj _ ?_;exact .eq (by simp at h h';simp[Bw,h'];omega)
  ·refine hJ _ 1 ⟨by omega,λ_=>by simp at h h';omega,by omega,by omega⟩ (by omega) AS
 ·simp(disch:=omega)only[go_sem];refine⟨λh=>?_,λh=>⟨λh'=>?_,λh'=>?_⟩⟩
  ·refine Aj _ ?_;exact .eq (by simp at h;simp[Bw,h,h1])
  ·refine Aj _ ?_;exact .eq (by simp at h h';simp[Bw,h',h1];omega)
  ·refine hJ _ 2 ⟨by omega,λ_=>h1 (by omega),λ_=>by simp at h h';omega,by omega⟩ (by omega) AS
 ·simp(disch:=omega)only[go_sem];refine⟨λh=>?_,λh=>⟨λh'=>?_,λh'=>?_⟩⟩
  ·refine Aj _ ?_;exact .eq (by simp at h;simp[Bw,h,h1,h2])
  ·refine Aj _ ?_;exact .eq (by simp at h h';simp[Bw,h',h1,h2];omega)
  ·refine hJ _ 3 ⟨by omega,λ_=>h1 (by omega),λ_=>h2 (by omega),λ_=>by simp at h h';omega⟩ (by omega) AS
 ·simp(disch:=omega)only[go_sem];refine Aj _ ?_;exact .eq (by simp[Bw,h1,h2,h3])
def J7(p q:Ad):Ac C0 74 [.agg p.c,.agg q.c] [] (I (Bw p q)) []:=by
 refine Ac.go f74 ?_;unfold f74;refine gO ?_;refine Ab (nG p q) ?_;refine gO ?_;exact AM _
def MQ(g:Int):Int:=if g<0\/1073741824<=g then 1 else g+1
def Xz(g:Int):Ac C0 240 [I g] [] (I (MQ g)) []:=by
 refine Ac.go f240 ?_;unfold f240;simp(disch:=omega)only[go_sem]
 repeat'(with_reducible refine And.intro (λh=>?_) (λh=>?_))
 all_goals(refine CD _ ?_)
 all_goals(try simp(disch:=omega)only[go_sem])
 all_goals(first|refine wb ?_|refine wi ?_|refine .eq ?_)
 all_goals(first|(simp_all[MQ,IntKind.wrap,IntKind.signed,IntKind.bits]<;>omega)|(refine Bool.eq_iff_iff.2 ?_;simp_all[MQ,IntKind.wrap,IntKind.signed,IntKind.bits]<;>omega))
def BO.zero(a:BO):Bool:=a.mode==0&&a.Ax==0
def IM(a:BO):Ac C0 241 [.agg a.c] [] (B a.zero) []:=by
 refine Ac.go f241 ?_;unfold f241;simp(disch:=omega)only[go_sem]
 repeat'(with_reducible refine And.intro (λh=>?_) (λh=>?_))
 all_goals(refine CD _ ?_)
 all_goals(try simp(disch:=omega)only[go_sem])
 all_goals(first|refine wb ?_|refine wi ?_|refine .eq ?_)
 all_goals(first|(simp_all[BO.zero]<;>omega)|(refine Bool.eq_iff_iff.2 ?_;simp_all[BO.zero]<;>omega))
def Bo.shaped(r:Bo):Bool:=if r.kind=1 then r.Ax==1 else if r.kind=2 then AL r.Ax 1 8 else false
def Py(r:Bo):Ac C0 278 [.agg r.c] [] (B r.shaped) []:=by
 refine Ac.go f278 ?_;unfold f278;simp(disch:=omega)only[go_sem]
 repeat'(with_reducible refine And.intro (λh=>?_) (λh=>?_))
 all_goals(refine CD _ ?_)
 all_goals(try simp(disch:=omega)only[go_sem])
 all_goals(first|refine wb ?_|refine wi ?_|refine .eq ?_)
 all_goals(first|(simp_all[Bo.shaped,AL]<;>omega)|(refine Bool.eq_iff_iff.2 ?_;simp_all[Bo.shaped,AL]<;>omega))
def Bu(m:Int):Bool:=AL m 1 5
def Np(m:Int):Ac C0 141 [I m] [] (B (Bu m)) []:=by
 refine Ac.go f141 ?_;unfold f141;simp(disch:=omega)only[go_sem]
 repeat'(with_reducible refine And.intro (λh=>?_) (λh=>?_))
 all_goals(refine CD _ ?_)
 all_goals(try simp(disch:=omega)only[go_sem])
 all_goals(first|refine wb ?_|refine wi ?_|refine .eq ?_)
 all_goals(first|(simp_all[Bu,AL]<;>omega)|(refine Bool.eq_iff_iff.2 ?_;simp_all[Bu,AL]<;>omega))
def Bo.fits(r:Bo)(a:BO):Bool:=r.shaped&&(if r.kind=1 then Bu a.mode&&a.Ax==0 else a.mode==0&&AL a.Ax 1 r.Ax)
def G3(r:Bo)(a:BO):Ac C0 234 [.agg r.c,.agg a.c] [] (B (r.fits a)) []:=by
 refine Ac.go f234 ?_;unfold f234;simp(disch:=omega)only[go_sem]
 repeat'(first
  |(with_reducible refine And.intro (λh=>?_) (λh=>?_))
  |((with_reducible show A8 _ _ 278 _ _ _);refine Ag (Py r) ?_ rfl ?_;(focus(simp(disch:=omega)only[go_sem];done));try simp(disch:=omega)only[go_sem])
  |((with_reducible show A8 _ _ 141 _ _ _);refine Ag (Np a.mode) ?_ rfl ?_;(focus(simp(disch:=omega)only[go_sem];done));try simp(disch:=omega)only[go_sem]))
 all_goals(refine CD _ ?_)
 all_goals(try simp(disch:=omega)only[go_sem])
 all_goals(first|refine wb ?_|refine wi ?_|refine .eq ?_)
 all_goals(first|(simp_all[Bo.fits,AL]<;>omega)|(refine Bool.eq_iff_iff.2 ?_;simp_all[Bo.fits,AL]<;>omega))
def Bo.permits(r:Bo)(a:BO):Bool:=r.shaped&&(a.zero||r.fits a)
def XB(r:Bo)(a:BO):Ac C0 255 [.agg r.c,.agg a.c] [] (B (r.permits a)) []:=by
 refine Ac.go f255 ?_;unfold f255;simp(disch:=omega)only[go_sem]
 repeat'(first
  |(with_reducible refine And.intro (λh=>?_) (λh=>?_))
  |((with_reducible show A8 _ _ 278 _ _ _);refine Ag (Py r) ?_ rfl ?_;(focus(simp(disch:=omega)only[go_sem];done));try simp(disch:=omega)only[go_sem])
  |((with_reducible show A8 _ _ 241 _ _ _);refine Ag (IM a) ?_ rfl ?_;(focus(simp(disch:=omega)only[go_sem];done));try simp(disch:=omega)only[go_sem])
  |((with_reducible show A8 _ _ 234 _ _ _);refine Ag (G3 r a) ?_ rfl ?_;(focus(simp(disch:=omega)only[go_sem];done));try simp(disch:=omega)only[go_sem]))
 all_goals(refine CD _ ?_)
 all_goals(try simp(disch:=omega)only[go_sem])
 all_goals(first|refine wb ?_|refine wi ?_|refine .eq ?_)
 all_goals(first|(simp_all[Bo.permits]<;>omega)|(refine Bool.eq_iff_iff.2 ?_;simp_all[Bo.permits]<;>omega))
def sC(m:Int):List Bool:=if m=5 then [false,true,true,true,true,true] else if m=4 then [false,true,true,true,true,false] else if m=2 then [false,true,true,false,false,false] else if m=1 then [false,true,false,false,false,false] else if m=3 then [false,true,false,true,false,false] else [false,false,false,false,false,false]
def oS(m:Int):Ac C0 290 [I m] [] (.agg (C5 (sC m))) []:=by
 refine Ac.go f290 ?_;unfold f290;simp(disch:=omega)only[go_sem]
 repeat'(first
  |(with_reducible refine And.intro (λh=>?_) (λh=>?_))
)
 all_goals(refine CD _ ?_)
 all_goals(try simp(disch:=omega)only[go_sem])
 all_goals(first|refine wb ?_|refine wi ?_|refine .eq ?_)
 all_goals(first|(simp_all[sC,C5]<;>omega)|(refine Bool.eq_iff_iff.2 ?_;simp_all[sC,C5]<;>omega))
def Br(a b:Int):Bool:=Bu a&&Bu b&&(sC a).getD b.toNat false
def A9{m:Int}(h:Bu m=true):m=1\/m=2\/m=3\/m=4\/m=5:=by
 simp[Bu,AL]at h;omega
theorem nj(m:Int):(sC m).length=6:=by
 unfold sC
 repeat' split
 all_goals rfl
def oF(a b:Int):Ac C0 256 [I a,I b] [] (B (Br a b)) []:=by
 refine Ac.go f256 ?_;unfold f256;refine gO ?_;refine Ab (Np a) ?_;refine gO ?_;refine⟨λh=>?_,λh=>?_⟩
 ·refine Ab (Np b) ?_;refine gO ?_;refine And.intro (λh'=>?_) (λh'=>?_)
  ·have h1:=A9 h';have hb:(b<6)=True:=by simp;omega
   have iO:(0<=b)=True:=by simp;omega
   have hl:=nj a;refine Ag (y':=.agg (C5 (sC a))) (oS a) gI gI ?_;simp(disch:=omega)only[go_sem,hl,QA,hb,iO,mul_one];refine Aj _ ?_;exact .eq (by simp[Br,h,h'])
  ·refine Aj _ ?_;exact .eq (by simp[Br,h,h'])
 ·refine Aj _ ?_;exact .eq (by simp[Br,h])
def Cg(a b:Int):Bool:=Bu a&&Bu b&&vp.getD ((a-1)*5+(b-1)).toNat false
def oW(a b:Int):Ac C0 297 [I a,I b] [] (B (Cg a b)) []:=by
 refine Ac.go f297 ?_;unfold f297;refine gO ?_;refine Ab (Np a) ?_;refine gO ?_;refine⟨λh=>?_,λh=>?_⟩
 ·refine Ab (Np b) ?_;refine gO ?_;refine And.intro (λh'=>?_) (λh'=>?_)
  ·have h1:=A9 h;have h2:=A9 h';have ha:(a-1<5)=True:=by simp;omega
   have tK:(0<=a-1)=True:=by simp;omega
   have hb:(b-1<5)=True:=by simp;omega
   have iO:(0<=b-1)=True:=by simp;omega
   have hl:vp.length=25:=rfl;have hk:((a-1)*5+(b-1)).toNat=0+(a-1).toNat*5+(b-1).toNat*1:=by omega
   simp(disch:=omega)only[go_sem,tog,hl,QA,ha,tK,hb,iO,mul_one];refine Aj _ ?_;exact .eq (by simp[Cg,h,h',hk])
  ·refine Aj _ ?_;exact .eq (by simp[Cg,h,h'])
 ·refine Aj _ ?_;exact .eq (by simp[Cg,h])
def Bo.covers(r:Bo)(a b:BO):Bool:=r.permits a&&r.permits b&&(if a.zero||b.zero then b.zero else if r.kind=1 then Br a.mode b.mode else decide (b.Ax<=a.Ax))
def Pw(r:Bo)(a b:BO):Ac C0 204 [.agg r.c,.agg a.c,.agg b.c] [] (B (r.covers a b)) []:=by
 refine Ac.go f204 ?_;unfold f204;simp(disch:=omega)only[go_sem]
 repeat'(first
  |(with_reducible refine And.intro (λh=>?_) (λh=>?_))
  |((with_reducible show A8 _ _ 255 _ _ _);refine Ag (XB r a) ?_ rfl ?_;(focus(simp(disch:=omega)only[go_sem];done));try simp(disch:=omega)only[go_sem])
  |((with_reducible show A8 _ _ 255 _ _ _);refine Ag (XB r b) ?_ rfl ?_;(focus(simp(disch:=omega)only[go_sem];done));try simp(disch:=omega)only[go_sem])
  |((with_reducible show A8 _ _ 241 _ _ _);refine Ag (IM a) ?_ rfl ?_;(focus(simp(disch:=omega)only[go_sem];done));try simp(disch:=omega)only[go_sem])
  |((with_reducible show A8 _ _ 241 _ _ _);refine Ag (IM b) ?_ rfl ?_;(focus(simp(disch:=omega)only[go_sem];done));try simp(disch:=omega)only[go_sem])
  |((with_reducible show A8 _ _ 256 _ _ _);refine Ag (oF a.mode b.mode) ?_ rfl ?_;(focus(simp(disch:=omega)only[go_sem];done));try simp(disch:=omega)only[go_sem]))
 all_goals(refine CD _ ?_)
 all_goals(try simp(disch:=omega)only[go_sem])
 all_goals(first|refine wb ?_|refine wi ?_|refine .eq ?_)
 all_goals(first|(simp_all[Bo.covers]<;>omega)|(refine Bool.eq_iff_iff.2 ?_;simp_all[Bo.covers]<;>omega))
@[go_sem] theorem AbW(p q:Ad):(p.site==q.site&&(p.inc==q.inc&&p.num==q.num))=decide (p=q):=by
 cases p;cases q;refine Bool.eq_iff_iff.2 ?_;simp
@[go_sem] theorem Ab9(p q:BO):(p.mode==q.mode&&p.Ax==q.Ax)=decide (p=q):=by
 cases p;cases q;refine Bool.eq_iff_iff.2 ?_;simp
def Ap(l:List AX)(p:Ad):BO:=match l.find? (λh=>decide (h.proc=p)) with
 |some h=>h.AN
 |none=>⟨0,0⟩
def B4{α:Type}{f:α->Bool}{l:List α}{i:Nat}{b:α}(h:(l.take i).find? f=none)(hb:l[i]?=some b):(l.take (i+1)).find? f=if f b then some b else none:=by
 rw[take_add_one,hb,List.find?_append,h];simp[List.find?]
theorem G5{α:Type}{f:α->Bool}{l:List α}{i:Nat}{b:α}(h:(l.take i).find? f=none)(hb:l[i]?=some b)(hf:f b=true):l.find? f=some b:=by
 have h1:=B4 h hb;rw[hf]at h1
 conv=>lhs;rw[<- List.take_append_drop (i+1) l]
 rw[List.find?_append,h1];rfl
def oE(l:List AX)(p:Ad)(hl:l.length<=1000000):Ac C0 254 [AY l,.agg p.c] [] (.agg (Ap l p).c) []:=by
 refine Ac.go f254 ?_;unfold f254;refine gO ?_;refine AH (l) (λi=>⟨[(9,I i),(8,I l.length),(7,AY l),(3,.ptr 192 0),(4,.ptr 256 0)],[(192,p.c),(256,(⟨0,0⟩:BO).c)]⟩) (λi=>(l.take i).find? (λh=>decide (h.proc=p))=none) rfl ?_ ?_
 ·exact B9
 rintro i ⟨hi,hP⟩ J hJ;refine gO ?_;refine Bp hi (λAu b hb Cc AR=>?_) λBf=>?_
 simp(disch:=omega)only[go_sem,gm,hb]
 ·refine⟨λh=>?_,λh=>?_⟩
  ·have e:Ap l p=b.AN:=by unfold Ap;rw[G5 hP hb (by simpa using h)]
   simp(disch:=omega)only[go_sem,e];exact AM _
  ·refine hJ _ (i+1) ⟨by omega,(by rw[B4 hP hb];simp at h;simp[h])⟩ (by omega) AS
 ·subst Bf;rw[take_length]at hP;have e:Ap l p=⟨0,0⟩:=by unfold Ap;rw[hP]
  simp(disch:=omega)only[go_sem,e];exact AM _
def Dn(l:List AX):List Ad:=l.map (·.proc)
def IL(q:Queue)(p:Ad)(hl:q.holds.length<=1000000):Ac C0 203 [.agg q.c,.agg p.c] [] (.agg (Ap q.holds p).c) []:=by
 refine Ac.go f203 ?_;unfold f203;refine gO ?_;refine Ab (oE q.holds p hl) ?_;refine gO ?_;exact AM _
def EH(l:List Ba)(p:Ad):Int:=match l.findIdx? (λh=>decide (h.proc=p)) with
 |some i=>i
 |none=>-1
def Gk{α:Type}{f:α->Bool}{l:List α}{i:Nat}(h:(l.take i).find? f=none):∀ b,l[i]?=some b->f b=true->l.findIdx? f=some i:=by
 intro b hb hf;rw[List.findIdx?_eq_some_iff_getElem];have hi:i<l.length:=by
  rcases Nat.lt_or_ge i l.length with h|h
  ·exact h
  ·rw[List.getElem?_eq_none h]at hb;cases hb
 refine⟨hi,?_,λj hj=>?_⟩
 ·rw[gE hi]at hb;injection hb with hb
  rw[hb];exact hf
 ·rw[List.find?_eq_none]at h;have:=h (l[j]) (by
   rw[List.mem_take_iff_getElem];exact⟨j,by omega,rfl⟩)
  simpa using this
def SM(l:List Ba)(p:Ad)(hl:l.length<=1000000):Ac C0 257 [BZ l,.agg p.c] [] (I (EH l p)) []:=by
 refine Ac.go f257 ?_;unfold f257;refine gO ?_;refine AH (l) (λi=>⟨[(9,I i),(8,I l.length),(7,BZ l),(3,.ptr 192 0)],[(192,p.c)]⟩) (λi=>(l.take i).find? (λh=>decide (h.proc=p))=none) rfl ?_ ?_
 ·exact B9
 rintro i ⟨hi,hP⟩ J hJ;refine gO ?_;refine Bp hi (λAu b hb Cc AR=>?_) λBf=>?_
 simp(disch:=omega)only[go_sem,gm,hb]
 ·refine⟨λh=>?_,λh=>?_⟩
  ·have e:EH l p=i:=by unfold EH;rw[Gk hP b hb (by simpa using h)]
   simp(disch:=omega)only[go_sem,e];exact AM _
  ·refine hJ _ (i+1) ⟨by omega,(by rw[B4 hP hb];simp at h;simp[h])⟩ (by omega) AS
 ·subst Bf;rw[take_length]at hP;have e:EH l p = -1:=by
   unfold EH;have:l.findIdx? (λh=>decide (h.proc=p))=none:=by
    rw[List.findIdx?_eq_none_iff];rw[List.find?_eq_none]at hP;intro x hx;simpa using hP x hx
   rw[this]
  simp(disch:=omega)only[go_sem,e];exact AM _
def reserved(s:Bs):Bool:=s==[97,108,108]||s==[97,110,121]||s==[111,102]||s==[112,114,105,111]||s==[108,105,109,105,116]
def nM(s:Bs):Ac C0 140 [.v (.string (str s))] [] (B (reserved s)) []:=by
 refine Ac.go f140 ?_;unfold f140;simp(disch:=omega)only[go_sem]
 repeat'(first
  |(with_reducible refine And.intro (λh=>?_) (λh=>?_))
)
 all_goals(refine CD _ ?_)
 all_goals(try simp(disch:=omega)only[go_sem])
 all_goals(refine .eq ?_)
 all_goals(first|(simp_all[reserved]<;>omega)|(refine Bool.eq_iff_iff.2 ?_;simp_all[reserved]<;>omega))
@[go_sem] theorem Aac(l:Bs)(i:Nat):(str l)[i]?=l[i]?:=by
 show (ByteArray.mk l.toArray)[i]?=l[i]?
 by_cases h:i<l.length
 ·have h1:i<(ByteArray.mk l.toArray).size:=h;rw[getElem?_pos _ i h1,getElem?_pos _ i h];rfl
 ·have h1:¬ i<(ByteArray.mk l.toArray).size:=h;rw[getElem?_neg _ i h1,getElem?_neg _ i h]
def letter(c:UInt8):Bool:=decide (97<=(c.toNat:Int))&&decide ((c.toNat:Int)<=122)
def other(c:UInt8):Bool:=decide (48<=(c.toNat:Int))&&decide ((c.toNat:Int)<=57)||(c.toNat:Int)==95||(c.toNat:Int)==45
def r6(i:Nat)(c:UInt8):Bool:=letter c||(!decide (i=0)&&other c)
def Ci{α:Type}(f:Nat->α->Bool)(l:List α):Bool:=l.zipIdx.all λx=>f x.2 x.1
def Cl{α:Type}{f:Nat->α->Bool}{l:List α}{i:Nat}{b:α}(hb:l[i]?=some b):Ci f (l.take (i+1))=(Ci f (l.take i)&&f i b):=by
 have hi:i<l.length:=by
  rcases Nat.lt_or_ge i l.length with h|h
  ·exact h
  ·rw[List.getElem?_eq_none h]at hb;cases hb
 simp only[Ci,take_add_one,hb,Option.toList_some,List.zipIdx_append,List.all_append,List.length_take];simp[Nat.min_eq_left (Nat.le_of_lt hi)]
def BM{α:Type}{f:Nat->α->Bool}{l:List α}{i:Nat}{b:α}(hb:l[i]?=some b)(h:f i b=false):Ci f l=false:=by
 unfold Ci;rw[List.all_eq_false];refine⟨(b,i),?_,by simp[h]⟩;rw[List.mk_mem_zipIdx_iff_getElem?];exact hb
def C9(s:Bs):Bool:=decide (1<=s.length)&&decide (s.length<=12)&&!reserved s&&Ci r6 s
def XG(s:Bs):Ac C0 88 [.v (.string (str s))] [] (B (C9 s)) []:=by
 refine Ac.go f88 ?_;unfold f88
 by_cases h1:s.length<1
 ·have e1:((s.length:Int)<1)=True:=by simp;omega
  simp(disch:=omega)only[go_sem,e1];refine Aj _ ?_;exact .eq (by simp[C9];omega)
 by_cases h2:12<s.length
 ·have e1:((s.length:Int)<1)=False:=by simp;omega
  have e2:(12<(s.length:Int))=True:=by simp;omega
  simp(disch:=omega)only[go_sem,e1,e2,decide_false];refine Aj _ ?_;exact .eq (by simp[C9];omega)
 have e1:((s.length:Int)<1)=False:=by simp;omega
 have e2:(12<(s.length:Int))=False:=by simp;omega
 simp(disch:=omega)only[go_sem,e1,e2,decide_false];refine Ab (nM s) ?_;refine gO ?_;refine⟨λh=>?_,λh=>?_⟩
 ·refine Aj _ ?_;exact .eq (by simp[C9,h])
 refine AH (s) (λi=>⟨[(21,I i),(20,I s.length),(0,.v (.string (str s)))],[]⟩) (λi=>Ci r6 (s.take i)=true) rfl ?_ ?_
 ·exact B9
 rintro i ⟨hi,hP⟩ J hJ;refine gO ?_;refine Bp hi (λAu b hb Cc AR=>?_) λBf=>?_
 simp(disch:=omega)only[go_sem,gm,hb]
 ·repeat'(with_reducible refine And.intro (λh=>?_) (λh=>?_))
  all_goals(first
   | refine hJ _ (i+1) ⟨by omega,by rw[Cl hb,hP];simp_all[r6,letter,other]⟩ (by omega) AS
   |(have hz:r6 i b=false:=by(simp_all[r6,letter,other]<;>omega)
     have e:C9 s=false:=by simp[C9,BM hb hz]
     refine AZ ⟨[],[],[]⟩ _ rfl ⟨rfl,rfl⟩ (by simp) ?_ trivial;simp(disch:=omega)only[go_sem,e]))
 ·subst Bf;rw[take_length]at hP;have e:C9 s=true:=by simp[C9,hP,h];omega
  simp(disch:=omega)only[go_sem,e];exact AM _
def dN(r:Bo):Ac C0 229 [.agg r.c] [] (B (C9 r.name&&r.shaped&&AL r.home 0 3)) []:=by
 refine Ac.go f229 ?_;unfold f229;simp(disch:=omega)only[go_sem]
 repeat'(first
  |(with_reducible refine And.intro (λh=>?_) (λh=>?_))
  |((with_reducible show A8 _ _ 88 _ _ _);refine Ag (XG r.name) ?_ rfl ?_;(focus(simp(disch:=omega)only[go_sem];done));try simp(disch:=omega)only[go_sem])
  |((with_reducible show A8 _ _ 278 _ _ _);refine Ag (Py r) ?_ rfl ?_;(focus(simp(disch:=omega)only[go_sem];done));try simp(disch:=omega)only[go_sem]))
 all_goals(refine CD _ ?_)
 all_goals(try simp(disch:=omega)only[go_sem])
 all_goals(refine .eq ?_)
 all_goals(first|(simp_all[AL]<;>omega)|(refine Bool.eq_iff_iff.2 ?_;simp_all[AL]<;>omega))
def Hc:Bo:=⟨[],1,1,0⟩
def Hg:Bo:=⟨[],2,8,0⟩
def Ba.ok(w:Ba):Bool:=w.proc.ok&&(Hc.fits w.AN||Hg.fits w.AN)&&AL w.prio 0 7&&AL w.DW 0 3
def oX(w:Ba):Ac C0 298 [.agg w.c] [] (B w.ok) []:=by
 refine Ac.go f298 ?_;unfold f298;simp(disch:=omega)only[go_sem]
 repeat'(first
  |(with_reducible refine And.intro (λh=>?_) (λh=>?_))
  |((with_reducible show A8 _ _ 72 _ _ _);refine Ag (TH w.proc) ?_ rfl ?_;(focus(simp(disch:=omega)only[go_sem];done));try simp(disch:=omega)only[go_sem])
  |((with_reducible show A8 _ _ 234 _ _ _);refine Ag (G3 ⟨[],1,1,0⟩ w.AN) ?_ rfl ?_;(focus(simp(disch:=omega)only[go_sem];done));try simp(disch:=omega)only[go_sem])
  |((with_reducible show A8 _ _ 234 _ _ _);refine Ag (G3 ⟨[],2,8,0⟩ w.AN) ?_ rfl ?_;(focus(simp(disch:=omega)only[go_sem];done));try simp(disch:=omega)only[go_sem]))
 all_goals(refine CD _ ?_)
 all_goals(try simp(disch:=omega)only[go_sem])
 all_goals(refine .eq ?_)
 all_goals(first|(simp_all[Ba.ok,AL,Hc,Hg]<;>omega)|(refine Bool.eq_iff_iff.2 ?_;simp_all[Ba.ok,AL,Hc,Hg]<;>omega))
def Fp(l:List Ba)(i:Nat)(w:Ba):Bool:=w.ok&&decide (EH l w.proc=(i:Int))
def DG(l:List Ba):Bool:=decide (l.length<=8)&&Ci (Fp l) l
def oP(l:List Ba):Ac C0 280 [BZ l] [] (B (DG l)) []:=by
 refine Ac.go f280 ?_;unfold f280
 by_cases h1:8<l.length
 ·have e1:(8<(l.length:Int))=True:=by simp;omega
  simp(disch:=omega)only[go_sem,e1];refine Aj _ ?_;exact .eq (by simp[DG];omega)
 have e1:(8<(l.length:Int))=False:=by simp;omega
 simp(disch:=omega)only[go_sem,e1,decide_false];refine AH (l) (λi=>⟨[(10,I i),(9,I l.length),(8,BZ l),(0,BZ l)],[]⟩) (λi=>Ci (Fp l) (l.take i)=true) rfl ?_ ?_
 ·exact B9
 rintro i ⟨hi,hP⟩ J hJ;refine gO ?_;refine Bp hi (λAu b hb Cc AR=>?_) λBf=>?_
 simp(disch:=omega)only[go_sem,gm,hb]
 ·refine Ab (oX b) ?_;cases hw:b.ok
  ·have e:DG l=false:=by simp[DG,BM hb (show Fp l i b=false by simp[Fp,hw])]
   simp(disch:=omega)only[go_sem,Bool.not_false,e];exact AM _
  simp(disch:=omega)only[go_sem,Bool.not_true];refine Ab (SM l b.proc (by omega)) ?_;refine gO ?_;refine⟨λh=>?_,λh=>?_⟩
  ·have e:DG l=false:=by simp[DG,BM hb (show Fp l i b=false by simp at h;simp[Fp,h])]
   simp(disch:=omega)only[go_sem,e];exact AM _
  ·refine hJ _ (i+1) ⟨by omega,(by rw[Cl hb,hP];simp at h;simp[Fp,hw,h])⟩ (by omega) AS
 ·subst Bf;rw[take_length]at hP;have e:DG l=true:=by simp[DG,hP];omega
  simp(disch:=omega)only[go_sem,e];exact AM _
def Bt(l:List Ba)(p:Ad):List Ba:=l.filter λw=>decide (w.proc≠p)
def SI(l:List Ba)(p:Ad)(hl:l.length<=1000000):Ac C0 189 [BZ l,.agg p.c] [] (.Bl [BZ (Bt l p),B (decide ((Bt l p).length<l.length))]) []:=by
 refine Ac.go f189 ?_;unfold f189;refine gO ?_;refine AH (l) (λi=>⟨[(11,I i),(10,I l.length),(9,BZ l),(0,BZ l),(3,.ptr 192 0),(6,.sl (.own 1408 0) 7 ((Bt (l.take i) p).map Ba.c))],[(192,p.c)]⟩) (λi=>(Bt (l.take i) p).length<=i) ((by simp[Bt])) ?_ ?_
 ·exact B9
 rintro i ⟨hi,hP⟩ J hJ;refine gO ?_;refine Bp hi (λAu b hb Cc AR=>?_) λBf=>?_
 simp(disch:=omega)only[go_sem,gm,hb]
 ·refine⟨λh=>?_,λh=>?_⟩
  ·refine hJ _ (i+1) ⟨by omega,?_⟩ (by omega) (AQ.An ?_ gI)
   ·simp at h;simp[Bt,take_add_one,hb,h];simp[Bt]at hP;omega
   ·simp(disch:=omega)only[go_sem];exact .sl (by simp at h;simp[Bt,take_add_one,hb,h,Ba.c])
  ·refine hJ _ (i+1) ⟨by omega,?_⟩ (by omega) (AQ.An ?_ gI)
   ·simp at h;simp[Bt,take_add_one,hb,h];simp[Bt]at hP;omega
   ·simp(disch:=omega)only[go_sem];exact .sl (by simp at h;simp[Bt,take_add_one,hb,h])
 ·subst Bf;rw[take_length]at hP;refine AZ ⟨[],[],[1408]⟩ _ rfl ⟨rfl,rfl⟩ (by simp) ?_ trivial;simp(disch:=omega)only[go_sem,take_length];exact .eq (by simp)
def fJ(l:List Bool)(n:Nat)(h:l.length=n):(C5 l).take n=C5 l:=List.take_of_length_le (by simp[C5,h])
def fK(l:List Bool)(k:Nat)(x:Bool)(h:k<l.length):(C5 l).take k++[.v (.bool x)]++(C5 l).drop (k+1)=C5 (l.set k x):=by
 rw[List.set_eq_take_append_cons_drop,if_pos h];simp[C5]
def EC(seen:List Bool)(m:Int):Bool:=(List.range 6).all λk=>!seen.getD k false||Cg k m
def B5(r:Bo):List BO->Int->List Bool->Bool
 |[],_,_=>true
 | a::l,s,seen=>r.permits a&&!decide (r.Ax<s+a.Ax)&&(if a.mode=0 then B5 r l (s+a.Ax) seen else EC seen a.mode&&B5 r l (s+a.Ax) (seen.set a.mode.toNat true))
def iX:List Bool:=[false,false,false,false,false,false]
def Bo.compat(r:Bo)(l:List BO):Bool:=r.shaped&&B5 r l 0 iX
def LI{r:Bo}(h:r.shaped=true):1<=r.Ax/\r.Ax<=8:=by
 simp only[Bo.shaped]at h;split at h
 ·simp at h;omega
 ·split at h
  ·simp[AL]at h;omega
  ·cases h
def JQ{r:Bo}{a:BO}(h:r.permits a=true):0<=a.Ax/\a.Ax<=8/\(a.mode=0\/Bu a.mode=true):=by
 simp only[Bo.permits,Bool.and_eq_true,Bool.or_eq_true]at h;obtain⟨h1,h2|h2⟩:=h
 ·simp[BO.zero]at h2;omega
 ·simp only[Bo.fits,Bool.and_eq_true]at h2;obtain⟨_,h3⟩:=h2;split at h3
  ·simp at h3;obtain⟨h3,h4⟩:=h3;exact⟨by omega,by omega,.inr h3⟩
  ·simp[AL]at h3;have:=LI h1;omega
def oO(r:Bo)(l:List BO)(hl:l.length<=1000000):Ac C0 279 [.agg r.c,Rt l] [] (B (r.compat l)) []:=by
 refine Ac.go f279 ?_;unfold f279;refine gO ?_;refine Ab (Py r) ?_;cases hs:r.shaped
 ·have e:r.compat l=false:=by simp[Bo.compat,hs]
  simp(disch:=omega)only[go_sem,Bool.not_false,e];exact AM _
 obtain⟨hu1,kN⟩:=LI hs;have PI:r.compat l=B5 r l 0 iX:=by simp[Bo.compat,hs]
 simp(disch:=omega)only[go_sem,Bool.not_true];refine Ao (α:=Nat × Int × List Bool) (λq=>⟨[(17,I q.1),(16,I l.length),(15,Rt l),(7,I q.2.1),(6,.ptr 384 0),(5,B true),(2,.ptr 128 0)],[(384,C5 q.2.2),(128,r.c)]⟩)
  (λq=>q.1<=l.length/\q.2.2.length=6/\0<=q.2.1/\q.2.1<=8/\B5 r (l.drop q.1) q.2.1 q.2.2=B5 r l 0 iX) (λq=>l.length-q.1) (0,0,iX) ⟨by simp,rfl,by simp,by simp,by simp⟩ ?_ ?_
 ·refine AQ.An ?_ ?_
  ·exact gI
  ·simp(disch:=omega)only[go_sem,C5,iX]
 rintro⟨i,sum,seen⟩ ⟨hi,XU,uC,yg,hc⟩ J hJ
 replace hi:i<=l.length:=hi
 replace XU:seen.length=6:=XU
 replace uC:0<=sum:=uC
 replace yg:sum<=8:=yg
 replace hc:B5 r (l.drop i) sum seen=B5 r l 0 iX:=hc
 refine gO ?_;refine ⟨λAu=>?_,λG9=>?_⟩
 ·have Fx:i<l.length:=by simp at Au;omega
  obtain⟨b,hb⟩:∃ b,l[i]?=some b:=⟨_,gE Fx⟩;have hd:l.drop i=b::l.drop (i+1):=by
   rw[List.drop_eq_getElem_cons Fx];rw[gE Fx]at hb;injection hb with hb
   rw[hb]
  rw[hd]at hc;simp only[B5]at hc;simp(disch:=omega)only[go_sem,gm,hb];refine Ab (XB r b) ?_;cases hp:r.permits b
  ·have e:r.compat l=false:=by rw[PI,<- hc,hp];rfl
   simp(disch:=omega)only[go_sem,Bool.not_false,e];exact AM _
  obtain⟨iO,hb8,Cc⟩:=JQ hp
  by_cases OE:r.Ax<sum+b.Ax
  ·have e:r.compat l=false:=by rw[PI,<- hc,hp];simp[OE]
   simp(disch:=omega)only[go_sem,Bool.not_true,e,OE];exact AM _
  rw[hp]at hc
  by_cases hm:b.mode=0
  ·have iS:(b.mode==0)=true:=by simp[hm]
   simp(disch:=omega)only[go_sem,Bool.not_true,OE,decide_false,iS];refine hJ _ (i+1,sum+b.Ax,seen) ⟨by simp;omega,XU,by simp;omega,by simp;omega,?_⟩ (by simp;omega) AS;simpa [OE,hm]using hc
  have iS:(b.mode==0)=false:=by simp[hm]
  have ue:Bu b.mode=true:=by
   rcases Cc with h|h
   ·exact absurd h hm
   ·exact h
  have hmc:=A9 ue;have RR:(EC seen b.mode&&B5 r (l.drop (i+1)) (sum+b.Ax) (seen.set b.mode.toNat true))=B5 r l 0 iX:=by simpa [OE,hm]using hc
  simp(disch:=omega)only[go_sem,Bool.not_true,OE,decide_false,iS,XU,fJ];refine Ao (α:=Nat) (λk=>⟨[(42,I k),(41,.agg (C5 seen)),(9,.ptr 576 0),(17,I i),(16,I l.length),(15,Rt l),(7,I (sum+b.Ax)),(6,.ptr 384 0),(5,B true),(2,.ptr 128 0)],[(576,b.c),(384,C5 seen),(128,r.c)]⟩)
   (λk=>k<=6/\(List.range k).all (λj=>!seen.getD j false||Cg j b.mode)=true) (λk=>6-k) 0 ⟨by omega,rfl⟩ ?_ ?_
  ·refine AQ.An ?_ ?_
   ·exact gI
   ·exact gI
  rintro k ⟨hk,vT⟩ J2 SO
  by_cases hk6:k<6
  ·have tX:((k:Int)<6)=True:=by simp;omega
   have Qr:seen.getD k false=true->Cg k b.mode=false->r.compat l=false:=λh1 h2=>by
    have:EC seen b.mode=false:=by
     unfold EC;rw[List.all_eq_false];exact⟨k,List.mem_range.2 (by omega),by rw[h1,h2];decide⟩
    rw[PI,<- RR,this];rfl
   have yr:(!seen.getD k false||Cg k b.mode)=true->(List.range (k+1)).all (λj=>!seen.getD j false||Cg j b.mode)=true:=λh=>by
    rw[List.range_succ,List.all_append,vT];simpa using h
   simp(disch:=omega)only[go_sem,tX,XU,QA,mul_one];refine⟨λh=>?_,λh=>?_⟩
   ·refine Ab (oW k b.mode) ?_;cases tN:Cg k b.mode
    ·simp(disch:=omega)only[go_sem,Bool.not_false,Qr h tN];exact AM _
    ·simp(disch:=omega)only[go_sem,Bool.not_true];refine SO _ (k+1) ⟨by omega,yr (by rw[tN];simp)⟩ (by omega) AS
   ·refine SO _ (k+1) ⟨by omega,yr (by rw[h];rfl)⟩ (by omega) AS
  ·have tX:((k:Int)<6)=False:=by simp;omega
   have xX:k=6:=by omega
   subst xX;have hso:EC seen b.mode=true:=vT;rw[hso]at RR;have hm6:(b.mode<6)=True:=by simp;omega
   have kE:(0<=b.mode)=True:=by simp;omega
   simp(disch:=omega)only[go_sem,tX,decide_false,hm6,kE,XU,mul_one,fK];refine hJ _ (i+1,sum+b.Ax,seen.set b.mode.toNat true) ⟨by simp;omega,by simp[XU],by simp;omega,by simp;omega,by simpa using RR⟩ (by simp;omega) AS
 ·have Bf:i=l.length:=by simp at G9;omega
  subst Bf;rw[List.drop_length]at hc;have e:r.compat l=true:=by rw[PI,<- hc];rfl
  simp(disch:=omega)only[go_sem,e];exact AM _
def p0:Ad:=⟨0,0,0⟩
def h0:AX:=⟨⟨0,0,0⟩,⟨0,0⟩⟩
def Eo(r:Bo)(l:List AX)(i:Nat)(h:AX):Bool:=h.proc.ok&&r.fits h.AN&&(decide (i=0)||decide (Bw (l.getD (i-1) h0).proc h.proc<0))
def BG(r:Bo)(l:List AX):Bool:=r.shaped&&decide (l.length<=8)&&Ci (Eo r l) l&&r.compat (l.map (·.AN))
def SL(r:Bo)(l:List AX):Ac C0 230 [.agg r.c,AY l] [] (B (BG r l)) []:=by
 refine Ac.go f230 ?_;unfold f230;refine gO ?_;refine Ab (Py r) ?_;cases hs:r.shaped
 ·have e:BG r l=false:=by simp[BG,hs]
  simp(disch:=omega)only[go_sem,Bool.not_false,e];exact AM _
 by_cases h8:8<l.length
 ·have e1:(8<(l.length:Int))=True:=by simp;omega
  have e:BG r l=false:=by simp[BG];omega
  simp(disch:=omega)only[go_sem,Bool.not_true,e1,e];exact AM _
 have e1:(8<(l.length:Int))=False:=by simp;omega
 simp(disch:=omega)only[go_sem,Bool.not_true,e1,decide_false];refine AH (l) (λi=>⟨[(18,I i),(17,I l.length),(16,AY l),(1,AY l),(2,.ptr 128 0),(5,.sl (.own 3328 0) 2 ((l.take i).map λh=>h.AN.c))],[(128,r.c)]⟩) (λi=>Ci (Eo r l) (l.take i)=true) rfl ?_ ?_
 ·exact B9
 rintro i ⟨hi,hP⟩ J hJ;refine gO ?_;refine Bp hi (λAu b hb Cc AR=>?_) λBf=>?_
 simp(disch:=omega)only[go_sem,gm,hb]
 ·refine Ab (TH b.proc) ?_;have bad:Eo r l i b=false->BG r l=false:=λh=>by simp[BG,BM hb h]
  cases hp:b.proc.ok
  ·simp(disch:=omega)only[go_sem,Bool.not_false,bad (by simp[Eo,hp])];exact AM _
  simp(disch:=omega)only[go_sem,Bool.not_true];refine Ab (G3 r b.AN) ?_;cases hf:r.fits b.AN
  ·simp(disch:=omega)only[go_sem,Bool.not_false,bad (by simp[Eo,hf])];exact AM _
  simp(disch:=omega)only[go_sem,Bool.not_true];refine Av 11 [([],[6]),([],[34]),([],[35]),([],[1,36]),([],[6,36]),([],[38,36]),([],[37,39,36]),([],[40,36]),([],[41,36]),([],[7,36]),([],[43,36])] B7 ?_;have Fv:(decide (i=0)||decide (Bw (l.getD (i-1) h0).proc b.proc<0))=true->Ci (Eo r l) (l.take (i+1))=true:=λh=>by
   rw[Cl hb,hP];simp only[Eo,hp,hf,h];rfl
  by_cases NO:i=0
  ·subst NO;refine gO ?_;refine hJ _ 1 ⟨by omega,Fv (by simp)⟩ (by omega) (AQ.An ?_ gI);refine gO ?_;exact .sl (by simp[List.take_one,List.head?_eq_getElem?,hb,BO.c])
  ·have PJ:(0<(i:Int))=True:=by simp;omega
   have Lu:((i:Int)-1)=((i-1:Nat):Int):=by omega
   obtain⟨a,ha⟩:∃ a,l[i-1]?=some a:=⟨_,gE (by omega)⟩;have PH:l.getD (i-1) h0=a:=by simp[List.getD,ha]
   simp(disch:=omega)only[go_sem,PJ,Lu,gm,ha];refine Ab (J7 a.proc b.proc) ?_;refine gO ?_
   by_cases hc:0<=Bw a.proc b.proc
   ·have e:BG r l=false:=bad (by simp only[Eo,PH];simp[NO];omega);simp(disch:=omega)only[go_sem,hc,e];exact AM _
   ·simp(disch:=omega)only[go_sem,hc,decide_false];refine hJ _ (i+1) ⟨by omega,Fv (by rw[PH];simp;omega)⟩ (by omega) (AQ.An ?_ gI);refine gO ?_;exact .sl (by simp[take_add_one,hb,BO.c])
 ·subst Bf;rw[take_length]at hP;have ee:BG r l=r.compat (l.map (·.AN)):=by simp[BG,hs,hP];omega
  refine Cb [3328] (oO r (l.map (·.AN)) (by simp;omega)) ?_ rfl trivial ?_
  ·simp(disch:=omega)only[go_sem,take_length];exact .sl (by simp[BO.c])
  rw[ee];refine gO ?_;exact AM _
def oA(r:Bo)(l:List AX)(p:Ad)(a:BO):Ac C0 233 [.agg r.c,AY l,.agg p.c,.agg a.c] [] (B (BG r l&&p.ok&&r.fits a)) []:=by
 refine Ac.go f233 ?_;unfold f233;simp(disch:=omega)only[go_sem]
 repeat'(first
  |(with_reducible refine And.intro (λh=>?_) (λh=>?_))
  |((with_reducible show A8 _ _ 230 _ _ _);refine Ag (SL r l) ?_ rfl ?_;(focus(simp(disch:=omega)only[go_sem];done));try simp(disch:=omega)only[go_sem])
  |((with_reducible show A8 _ _ 72 _ _ _);refine Ag (TH p) ?_ rfl ?_;(focus(simp(disch:=omega)only[go_sem];done));try simp(disch:=omega)only[go_sem])
  |((with_reducible show A8 _ _ 234 _ _ _);refine Ag (G3 r a) ?_ rfl ?_;(focus(simp(disch:=omega)only[go_sem];done));try simp(disch:=omega)only[go_sem]))
 all_goals(refine CD _ ?_)
 all_goals(try simp(disch:=omega)only[go_sem])
 all_goals(refine .eq ?_)
 all_goals(first|(simp_all[]<;>omega)|(refine Bool.eq_iff_iff.2 ?_;simp_all[]<;>omega))
def w0:Ba:=⟨⟨0,0,0⟩,⟨0,0⟩,0,0⟩
def BE(q:Queue):Option Ba:=match q.Ak++q.waits with
 | w::_=>some w
 |[]=>none
def dA(q:Queue):Ac C0 175 [.agg q.c] [] (.Bl [.agg ((BE q).getD w0).c,B (BE q).isSome]) []:=by
 refine Ac.go f175 ?_;unfold f175
 match hq:q.Ak,hw:q.waits with
 | w::l,_ =>
  have e:BE q=some w:=by simp[BE,hq]
  have e1:(0<(l.length:Int)+1)=True:=by simp
  simp(disch:=omega)only[go_sem,hq,e,e1,isSome_some];exact AM _
 |[],w::l =>
  have e:BE q=some w:=by simp[BE,hq,hw]
  have e1:(0<(l.length:Int)+1)=True:=by simp
  simp(disch:=omega)only[go_sem,hq,hw,e,e1,isSome_some];exact AM _
 |[],[] =>
  have e:BE q=none:=by simp[BE,hq,hw]
  simp(disch:=omega)only[go_sem,hq,hw,e,Option.isSome_none,w0];exact AM _
def Xu(q:Queue)(h1:q.holds.length<=1000000)(h2:q.Ak.length<=1000000)(h3:q.waits.length<=1000000):Ac C0 184 [.agg q.c] [] (.agg q.c) []:=by
 refine Ac.go f184 ?_;unfold f184;refine gO ?_;refine CK ⟨[],[],[320,576,832]⟩ _ ?_;simp(disch:=omega)only[go_sem,AY]
end Go.Rd
