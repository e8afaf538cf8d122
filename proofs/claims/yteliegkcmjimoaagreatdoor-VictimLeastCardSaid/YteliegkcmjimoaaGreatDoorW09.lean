/- part 9 of the proof -/
import Derived.Test.YteliegkcmjimoaaGreatDoorProg
import Derived.Lib.TrailingZeros
import Derived.Test.YteliegkcmjimoaaGreatDoorW08
set_option linter.all false
open Go Go.Abs Go.Proofs
set_option maxRecDepth 100000
namespace Go.Rd
set_option maxHeartbeats 8000000
open List (take_add_one take_length)
open Nat (mul_one)
open Tryz
attribute [go_sem] if_pos wrap64 Int.natCast_add
theorem B6:prog.follows .mixedOrders=true:=by kernel_rfl
@[go_sem] theorem F.sz1:Cn prog 1=some 1/\Bp prog 1=some false/\zeroOf prog 1=some [.nilFunc]:=⟨by kernel_rfl,by kernel_rfl,by kernel_rfl⟩
@[go_sem] theorem F.VF:Cn prog 3=some 1/\Bp prog 3=some false/\zeroOf prog 3=some [.int .i64 0]/\dO prog 3=some .i64/\AZ prog 3=false:=⟨by kernel_rfl,by kernel_rfl,by kernel_rfl,by kernel_rfl,by kernel_rfl⟩
@[go_sem] theorem F.i63:lS prog 3=true:=by kernel_rfl
@[go_sem] theorem F.sz4:Cn prog 4=some 1/\Bp prog 4=some false/\zeroOf prog 4=some [.bool false]:=⟨by kernel_rfl,by kernel_rfl,by kernel_rfl⟩
@[go_sem] theorem F.sz5:Cn prog 5=some 1:=by kernel_rfl
@[go_sem] theorem F.ag5:Bp prog 5=some false:=by kernel_rfl
@[go_sem] theorem F.in5:dO prog 5=some .u8:=by kernel_rfl
@[go_sem] theorem F.sz9:Cn prog 9=some 1/\Bp prog 9=some false/\zeroOf prog 9=some [.string (str [])]/\Yi prog 9=true:=⟨by kernel_rfl,by kernel_rfl,by kernel_rfl,by kernel_rfl⟩
@[go_sem] theorem F.Acl:Cn prog 22=some 1/\Bp prog 22=some false/\AE prog 22=some (65,8)/\Cs prog 22=some (65,8,120)/\AZ prog 22=true:=⟨by kernel_rfl,by kernel_rfl,by kernel_rfl,by kernel_rfl,by kernel_rfl⟩
@[go_sem] theorem F.Acm:Cn prog 23=some 1/\Bp prog 23=some false/\AE prog 23=some (75,9)/\Cs prog 23=some (75,9,96)/\AZ prog 23=true:=⟨by kernel_rfl,by kernel_rfl,by kernel_rfl,by kernel_rfl,by kernel_rfl⟩
@[go_sem] theorem F.AfO:Cn prog 25=some 2/\Bp prog 25=some true/\zeroOf prog 25=some [.slice none 0 0,.slice none 0 0]/\sized prog 25=true/\Bq prog 25 0=some 0/\placeOf prog 25 0=some (0,1)/\Bq prog 25 1=some 1/\placeOf prog 25 1=some (1,1):=⟨by kernel_rfl,by kernel_rfl,by kernel_rfl,by kernel_rfl,by kernel_rfl,by kernel_rfl,by kernel_rfl,by kernel_rfl⟩
@[go_sem] theorem F.Amx:Cn prog 26=some 1/\Bp prog 26=some false/\AE prog 26=some (51,3)/\Cs prog 26=some (51,3,24)/\AZ prog 26=true:=⟨by kernel_rfl,by kernel_rfl,by kernel_rfl,by kernel_rfl,by kernel_rfl⟩
@[go_sem] theorem F.Amy:Cn prog 27=some 1/\Bp prog 27=some false/\AE prog 27=some (3,1)/\Cs prog 27=some (3,1,8)/\AZ prog 27=true:=⟨by kernel_rfl,by kernel_rfl,by kernel_rfl,by kernel_rfl,by kernel_rfl⟩
@[go_sem] theorem F.Amz:Cn prog 38=some 1/\Bp prog 38=some false/\AE prog 38=some (54,6)/\Cs prog 38=some (54,6,64)/\AZ prog 38=true:=⟨by kernel_rfl,by kernel_rfl,by kernel_rfl,by kernel_rfl,by kernel_rfl⟩
@[go_sem] theorem F.AmA:Cn prog 46=some 2/\Bp prog 46=some true/\zeroOf prog 46=some [.slice none 0 0,.int .i64 0]/\sized prog 46=true/\Bq prog 46 0=some 0/\placeOf prog 46 0=some (0,1)/\Bq prog 46 1=some 1/\placeOf prog 46 1=some (1,1):=⟨by kernel_rfl,by kernel_rfl,by kernel_rfl,by kernel_rfl,by kernel_rfl,by kernel_rfl,by kernel_rfl,by kernel_rfl⟩
@[go_sem] theorem F.UY:Cn prog 51=some 3:=by kernel_rfl
@[go_sem] theorem F.AgU:Bp prog 51=some true:=by kernel_rfl
@[go_sem] theorem F.AmI:zeroOf prog 51=some [.int .i64 0,.int .i64 0,.int .i64 0]/\sized prog 51=true/\Bq prog 51 0=some 0/\placeOf prog 51 0=some (0,1)/\Bq prog 51 1=some 1/\placeOf prog 51 1=some (1,1)/\Bq prog 51 2=some 2/\placeOf prog 51 2=some (2,1)/\structEq prog 51=some [1,1,1]:=⟨by kernel_rfl,by kernel_rfl,by kernel_rfl,by kernel_rfl,by kernel_rfl,by kernel_rfl,by kernel_rfl,by kernel_rfl,by kernel_rfl⟩
@[go_sem] theorem F.Acn:Cn prog 52=some 1/\Bp prog 52=some false/\zeroOf prog 52=some [.slice none 0 0]/\AE prog 52=some (70,3)/\Cs prog 52=some (70,3,32)/\AZ prog 52=true:=⟨by kernel_rfl,by kernel_rfl,by kernel_rfl,by kernel_rfl,by kernel_rfl,by kernel_rfl⟩
@[go_sem] theorem F.Aco:Cn prog 54=some 6/\Bp prog 54=some true/\zeroOf prog 54=some [.int .i64 0,.int .i64 0,.int .i64 0,.int .i64 0,.int .i64 0,.slice none 0 0]/\sized prog 54=true/\Bq prog 54 0=some 0/\placeOf prog 54 0=some (0,3)/\Bq prog 54 1=some 3/\placeOf prog 54 1=some (3,1)/\Bq prog 54 2=some 4/\placeOf prog 54 2=some (4,1)/\Bq prog 54 3=some 5/\placeOf prog 54 3=some (5,1):=⟨by kernel_rfl,by kernel_rfl,by kernel_rfl,by kernel_rfl,by kernel_rfl,by kernel_rfl,by kernel_rfl,by kernel_rfl,by kernel_rfl,by kernel_rfl,by kernel_rfl,by kernel_rfl⟩
@[go_sem] theorem F.yg:Cn prog 61=some 4/\Bp prog 61=some true/\zeroOf prog 61=some [.string (str []),.int .i64 0,.int .i64 0,.int .i64 0]/\sized prog 61=true/\Bq prog 61 0=some 0/\placeOf prog 61 0=some (0,1)/\Bq prog 61 1=some 1/\placeOf prog 61 1=some (1,1)/\Bq prog 61 2=some 2/\placeOf prog 61 2=some (2,1)/\Bq prog 61 3=some 3/\placeOf prog 61 3=some (3,1):=⟨by kernel_rfl,by kernel_rfl,by kernel_rfl,by kernel_rfl,by kernel_rfl,by kernel_rfl,by kernel_rfl,by kernel_rfl,by kernel_rfl,by kernel_rfl,by kernel_rfl,by kernel_rfl⟩
@[go_sem] theorem F.Acp:Cn prog 62=some 1/\Bp prog 62=some false/\AE prog 62=some (119,5)/\Cs prog 62=some (119,5,40)/\AZ prog 62=true:=⟨by kernel_rfl,by kernel_rfl,by kernel_rfl,by kernel_rfl,by kernel_rfl⟩
@[go_sem] theorem F.yh:Cn prog 63=some 1/\Bp prog 63=some false/\zeroOf prog 63=some [.slice none 0 0]/\AE prog 63=some (121,7)/\Cs prog 63=some (121,7,56)/\AZ prog 63=true:=⟨by kernel_rfl,by kernel_rfl,by kernel_rfl,by kernel_rfl,by kernel_rfl,by kernel_rfl⟩
@[go_sem] theorem F.Acq:Cn prog 65=some 8/\Bp prog 65=some true/\zeroOf prog 65=some [.string (str []),.int .i64 0,.int .i64 0,.int .i64 0,.slice none 0 0,.slice none 0 0,.slice none 0 0,.int .i64 0]/\sized prog 65=true/\Bq prog 65 0=some 0/\placeOf prog 65 0=some (0,4)/\Bq prog 65 1=some 4/\placeOf prog 65 1=some (4,1)/\Bq prog 65 2=some 5/\Bq prog 65 3=some 6/\placeOf prog 65 3=some (6,1)/\Bq prog 65 4=some 7:=⟨by kernel_rfl,by kernel_rfl,by kernel_rfl,by kernel_rfl,by kernel_rfl,by kernel_rfl,by kernel_rfl,by kernel_rfl,by kernel_rfl,by kernel_rfl,by kernel_rfl,by kernel_rfl⟩
@[go_sem] theorem F.fN:Cn prog 68=some 2/\Bp prog 68=some true/\zeroOf prog 68=some [.int .i64 0,.int .i64 0]/\sized prog 68=true/\Bq prog 68 0=some 0/\placeOf prog 68 0=some (0,1)/\Bq prog 68 1=some 1/\placeOf prog 68 1=some (1,1)/\structEq prog 68=some [1,1]:=⟨by kernel_rfl,by kernel_rfl,by kernel_rfl,by kernel_rfl,by kernel_rfl,by kernel_rfl,by kernel_rfl,by kernel_rfl,by kernel_rfl⟩
@[go_sem] theorem F.tS:Cn prog 70=some 3/\Bp prog 70=some true/\zeroOf prog 70=some [.string (str []),.int .i64 0,.int .i64 0]/\sized prog 70=true/\Bq prog 70 0=some 0/\placeOf prog 70 0=some (0,1)/\Bq prog 70 1=some 1/\placeOf prog 70 1=some (1,2)/\structEq prog 70=some [2,1,1]:=⟨by kernel_rfl,by kernel_rfl,by kernel_rfl,by kernel_rfl,by kernel_rfl,by kernel_rfl,by kernel_rfl,by kernel_rfl,by kernel_rfl⟩
@[go_sem] theorem F.Acr:Cn prog 71=some 1/\Bp prog 71=some false/\AE prog 71=some (73,5)/\Cs prog 71=some (73,5,64)/\AZ prog 71=true:=⟨by kernel_rfl,by kernel_rfl,by kernel_rfl,by kernel_rfl,by kernel_rfl⟩
@[go_sem] theorem F.tT:Cn prog 73=some 5/\Bp prog 73=some true/\zeroOf prog 73=some [.int .i64 0,.string (str []),.int .i64 0,.int .i64 0,.slice none 0 0]/\sized prog 73=true/\Bq prog 73 0=some 0/\placeOf prog 73 0=some (0,1)/\Bq prog 73 1=some 1/\placeOf prog 73 1=some (1,3)/\Bq prog 73 2=some 4:=⟨by kernel_rfl,by kernel_rfl,by kernel_rfl,by kernel_rfl,by kernel_rfl,by kernel_rfl,by kernel_rfl,by kernel_rfl,by kernel_rfl⟩
@[go_sem] theorem F.Acs:Cn prog 75=some 9/\Bp prog 75=some true/\zeroOf prog 75=some [.int .i64 0,.int .i64 0,.int .i64 0,.int .i64 0,.string (str []),.int .i64 0,.int .i64 0,.slice none 0 0,.int .i64 0]/\sized prog 75=true/\Bq prog 75 0=some 0/\placeOf prog 75 0=some (0,3)/\Bq prog 75 1=some 3/\placeOf prog 75 1=some (3,5)/\Bq prog 75 2=some 8/\placeOf prog 75 2=some (8,1):=⟨by kernel_rfl,by kernel_rfl,by kernel_rfl,by kernel_rfl,by kernel_rfl,by kernel_rfl,by kernel_rfl,by kernel_rfl,by kernel_rfl,by kernel_rfl⟩
@[go_sem] theorem F.AmC:Cn prog 79=some 1/\Bp prog 79=some false/\AE prog 79=some (132,16)/\Cs prog 79=some (132,16,184)/\AZ prog 79=true:=⟨by kernel_rfl,by kernel_rfl,by kernel_rfl,by kernel_rfl,by kernel_rfl⟩
@[go_sem] theorem F.AmD:Cn prog 81=some 3/\Bp prog 81=some true/\zeroOf prog 81=some [.int .i64 0,.slice none 0 0,.slice none 0 0]/\sized prog 81=true/\Bq prog 81 0=some 0/\Bq prog 81 1=some 1/\placeOf prog 81 1=some (1,1)/\Bq prog 81 2=some 2:=⟨by kernel_rfl,by kernel_rfl,by kernel_rfl,by kernel_rfl,by kernel_rfl,by kernel_rfl,by kernel_rfl,by kernel_rfl⟩
@[go_sem high] theorem F.AgX:prog.concrete 92=true:=by kernel_rfl
@[go_sem] theorem F.Agy:OS prog 92 "Len" = some (47,some 97)/\OS prog 92 "Less" = some (320,some 97)/\OS prog 92 "Pop" = some (321,none)/\OS prog 92 "Push" = some (322,none)/\OS prog 92 "Swap" = some (323,some 97):=⟨by kernel_rfl,by kernel_rfl,by kernel_rfl,by kernel_rfl,by kernel_rfl⟩
@[go_sem] theorem F.AmE:Cn prog 93=some 1/\Bp prog 93=some false/\dO prog 93=some .u64:=⟨by kernel_rfl,by kernel_rfl,by kernel_rfl⟩
@[go_sem] theorem F.AmF:Cn prog 95=some 2/\Bp prog 95=some true/\zeroOf prog 95=some [.int .i64 0,.int .u64 0]:=⟨by kernel_rfl,by kernel_rfl,by kernel_rfl⟩
@[go_sem high] theorem F.AgY:prog.concrete 95=true:=by kernel_rfl
@[go_sem] theorem F.Amu:sized prog 95=true/\Bq prog 95 0=some 0/\placeOf prog 95 0=some (0,1)/\Bq prog 95 1=some 1/\placeOf prog 95 1=some (1,1):=⟨by kernel_rfl,by kernel_rfl,by kernel_rfl,by kernel_rfl,by kernel_rfl⟩
@[go_sem] theorem F.AmG:Cn prog 97=some 1/\Bp prog 97=some false/\AE prog 97=some (95,2)/\Cs prog 97=some (95,2,16)/\AZ prog 97=true:=⟨by kernel_rfl,by kernel_rfl,by kernel_rfl,by kernel_rfl,by kernel_rfl⟩
@[go_sem] theorem F.AiG:Bp prog 106=some true/\zeroOf prog 106=some [.slice none 0 0,.slice none 0 0,.slice none 0 0,.bool false,.slice none 0 0,.int .i64 0]/\sized prog 106=true/\Bq prog 106 0=some 0/\placeOf prog 106 0=some (0,2)/\Bq prog 106 1=some 2/\placeOf prog 106 1=some (2,1)/\Bq prog 106 2=some 3/\Bq prog 106 3=some 4:=⟨by kernel_rfl,by kernel_rfl,by kernel_rfl,by kernel_rfl,by kernel_rfl,by kernel_rfl,by kernel_rfl,by kernel_rfl,by kernel_rfl⟩
@[go_sem] theorem F.tQ:Cn prog 119=some 5/\Bp prog 119=some true/\zeroOf prog 119=some [.int .i64 0,.int .i64 0,.int .i64 0,.int .i64 0,.int .i64 0]/\sized prog 119=true/\Bq prog 119 0=some 0/\placeOf prog 119 0=some (0,3)/\Bq prog 119 1=some 3/\placeOf prog 119 1=some (3,2):=⟨by kernel_rfl,by kernel_rfl,by kernel_rfl,by kernel_rfl,by kernel_rfl,by kernel_rfl,by kernel_rfl,by kernel_rfl⟩
@[go_sem] theorem F.tR:Cn prog 121=some 7/\Bp prog 121=some true/\zeroOf prog 121=some [.int .i64 0,.int .i64 0,.int .i64 0,.int .i64 0,.int .i64 0,.int .i64 0,.int .i64 0]/\sized prog 121=true/\Bq prog 121 0=some 0/\placeOf prog 121 0=some (0,3)/\Bq prog 121 1=some 3/\placeOf prog 121 1=some (3,2)/\Bq prog 121 2=some 5/\placeOf prog 121 2=some (5,1)/\Bq prog 121 3=some 6:=⟨by kernel_rfl,by kernel_rfl,by kernel_rfl,by kernel_rfl,by kernel_rfl,by kernel_rfl,by kernel_rfl,by kernel_rfl,by kernel_rfl,by kernel_rfl,by kernel_rfl⟩
@[go_sem] theorem F.Akm:Cn prog 125=some 1/\Bp prog 125=some false/\AE prog 125=some (252,5)/\Cs prog 125=some (252,5,48)/\AZ prog 125=true:=⟨by kernel_rfl,by kernel_rfl,by kernel_rfl,by kernel_rfl,by kernel_rfl⟩
@[go_sem] theorem F.Akn:Cn prog 126=some 1/\Bp prog 126=some false/\AE prog 126=some (205,2)/\Cs prog 126=some (205,2,16)/\AZ prog 126=true:=⟨by kernel_rfl,by kernel_rfl,by kernel_rfl,by kernel_rfl,by kernel_rfl⟩
@[go_sem] theorem F.Ako:Cn prog 128=some 2/\Bp prog 128=some true/\zeroOf prog 128=some [.slice none 0 0,.slice none 0 0]/\sized prog 128=true/\Bq prog 128 0=some 0/\placeOf prog 128 0=some (0,1)/\Bq prog 128 1=some 1/\placeOf prog 128 1=some (1,1):=⟨by kernel_rfl,by kernel_rfl,by kernel_rfl,by kernel_rfl,by kernel_rfl,by kernel_rfl,by kernel_rfl,by kernel_rfl⟩
@[go_sem] theorem F.Akp:Cn prog 130=some 7/\Bp prog 130=some true/\zeroOf prog 130=some [.int .i64 0,.string (str []),.int .i64 0,.int .i64 0,.slice none 0 0,.int .i64 0,.int .i64 0]/\sized prog 130=true/\Bq prog 130 0=some 0/\Bq prog 130 1=some 5/\placeOf prog 130 1=some (5,1)/\Bq prog 130 2=some 6:=⟨by kernel_rfl,by kernel_rfl,by kernel_rfl,by kernel_rfl,by kernel_rfl,by kernel_rfl,by kernel_rfl,by kernel_rfl⟩
@[go_sem] theorem F.Akq:Cn prog 132=some 16/\Bp prog 132=some true/\zeroOf prog 132=some [.int .i64 0,.int .i64 0,.int .i64 0,.int .i64 0,.slice none 0 0,.slice none 0 0,.bool false,.int .i64 0,.string (str []),.int .i64 0,.int .i64 0,.slice none 0 0,.int .i64 0,.int .i64 0,.int .i64 0,.int .i64 0]/\sized prog 132=true/\Bq prog 132 0=some 0/\placeOf prog 132 0=some (0,3)/\Bq prog 132 1=some 3/\placeOf prog 132 1=some (3,1)/\Bq prog 132 2=some 4/\Bq prog 132 3=some 6/\Bq prog 132 4=some 7/\Bq prog 132 5=some 14:=⟨by kernel_rfl,by kernel_rfl,by kernel_rfl,by kernel_rfl,by kernel_rfl,by kernel_rfl,by kernel_rfl,by kernel_rfl,by kernel_rfl,by kernel_rfl,by kernel_rfl,by kernel_rfl⟩
@[go_sem] theorem F.AgC:Bq prog 132 6=some 15:=by kernel_rfl
@[go_sem] theorem F.AiS:AE prog 133=some (61,4)/\Cs prog 133=some (61,4,40)/\AZ prog 133=true:=⟨by kernel_rfl,by kernel_rfl,by kernel_rfl⟩
@[go_sem] theorem F.AiT:AE prog 134=some (180,13)/\Cs prog 134=some (180,13,136)/\AZ prog 134=true:=⟨by kernel_rfl,by kernel_rfl,by kernel_rfl⟩
@[go_sem] theorem F.Akr:Cn prog 151=some 1/\Bp prog 151=some false/\zeroOf prog 151=some [.map none]:=⟨by kernel_rfl,by kernel_rfl,by kernel_rfl⟩
@[go_sem] theorem F.zm:et prog 151=some (3,false,[1],4):=by kernel_rfl
@[go_sem] theorem F.Aj5:dO prog 159=some .u64:=by kernel_rfl
@[go_sem] theorem F.AiH:Bp prog 176=some true/\zeroOf prog 176=some [.slice none 0 0,.int .i64 0]/\sized prog 176=true/\Bq prog 176 0=some 0/\placeOf prog 176 0=some (0,1)/\Bq prog 176 1=some 1:=⟨by kernel_rfl,by kernel_rfl,by kernel_rfl,by kernel_rfl,by kernel_rfl,by kernel_rfl⟩
@[go_sem] theorem F.Aks:Cn prog 180=some 13/\Bp prog 180=some true/\zeroOf prog 180=some [.int .i64 0,.int .i64 0,.int .i64 0,.int .i64 0,.int .i64 0,.string (str []),.int .i64 0,.int .i64 0,.slice none 0 0,.int .i64 0,.int .i64 0,.string (str []),.int .i64 0]/\sized prog 180=true/\Bq prog 180 0=some 0/\placeOf prog 180 0=some (0,1)/\Bq prog 180 1=some 1/\placeOf prog 180 1=some (1,3)/\Bq prog 180 2=some 4/\Bq prog 180 3=some 11/\Bq prog 180 4=some 12/\placeOf prog 180 4=some (12,1):=⟨by kernel_rfl,by kernel_rfl,by kernel_rfl,by kernel_rfl,by kernel_rfl,by kernel_rfl,by kernel_rfl,by kernel_rfl,by kernel_rfl,by kernel_rfl,by kernel_rfl,by kernel_rfl⟩
@[go_sem] theorem F.Akt:Cn prog 184=some 1/\Bp prog 184=some false/\Cs prog 184=some (323,7,64)/\AZ prog 184=true:=⟨by kernel_rfl,by kernel_rfl,by kernel_rfl,by kernel_rfl⟩
@[go_sem] theorem F.Aku:Cn prog 192=some 3/\Bp prog 192=some true/\zeroOf prog 192=some [.int .i64 0,.int .i64 0,.int .i64 0]/\AE prog 192=none/\El prog 192=some (3,1)/\U9 prog 192=some (3,1,false)/\sized prog 192=true/\placeOf prog 192 0=some (0,1)/\placeOf prog 192 1=some (1,1)/\placeOf prog 192 2=some (2,1):=⟨by kernel_rfl,by kernel_rfl,by kernel_rfl,by kernel_rfl,by kernel_rfl,by kernel_rfl,by kernel_rfl,by kernel_rfl,by kernel_rfl,by kernel_rfl⟩
@[go_sem] theorem F.Akv:Cn prog 205=some 2/\Bp prog 205=some true/\zeroOf prog 205=some [.int .i64 0,.int .i64 0]/\sized prog 205=true/\Bq prog 205 0=some 0/\placeOf prog 205 0=some (0,1)/\Bq prog 205 1=some 1/\placeOf prog 205 1=some (1,1):=⟨by kernel_rfl,by kernel_rfl,by kernel_rfl,by kernel_rfl,by kernel_rfl,by kernel_rfl,by kernel_rfl,by kernel_rfl⟩
@[go_sem] theorem F.Akw:Cn prog 217=some 1/\Bp prog 217=some false/\AE prog 217=some (4,1)/\Cs prog 217=some (4,1,1)/\AZ prog 217=true:=⟨by kernel_rfl,by kernel_rfl,by kernel_rfl,by kernel_rfl,by kernel_rfl⟩
@[go_sem] theorem F.AiV:AE prog 229=some (9,1)/\Cs prog 229=some (9,1,16)/\AZ prog 229=true:=⟨by kernel_rfl,by kernel_rfl,by kernel_rfl⟩
@[go_sem] theorem F.AiI:Bp prog 235=some true/\zeroOf prog 235=some [.int .i64 0,.slice none 0 0,.slice none 0 0,.slice none 0 0]/\sized prog 235=true/\Bq prog 235 0=some 0/\placeOf prog 235 0=some (0,3)/\Bq prog 235 1=some 3:=⟨by kernel_rfl,by kernel_rfl,by kernel_rfl,by kernel_rfl,by kernel_rfl,by kernel_rfl⟩
@[go_sem] theorem F.Akx:Cn prog 252=some 5/\Bp prog 252=some true/\zeroOf prog 252=some [.string (str []),.int .i64 0,.int .i64 0,.int .i64 0,.int .i64 0]/\sized prog 252=true/\Bq prog 252 0=some 0/\placeOf prog 252 0=some (0,1)/\Bq prog 252 1=some 1/\placeOf prog 252 1=some (1,2)/\Bq prog 252 2=some 3/\placeOf prog 252 2=some (3,2):=⟨by kernel_rfl,by kernel_rfl,by kernel_rfl,by kernel_rfl,by kernel_rfl,by kernel_rfl,by kernel_rfl,by kernel_rfl,by kernel_rfl,by kernel_rfl⟩
@[go_sem] theorem F.AiW:AE prog 276=some (1,1)/\Cs prog 276=some (1,1,8)/\AZ prog 276=true:=⟨by kernel_rfl,by kernel_rfl,by kernel_rfl⟩
@[go_sem] theorem F.AiX:AE prog 291=some (68,2)/\Cs prog 291=some (68,2,16)/\AZ prog 291=true:=⟨by kernel_rfl,by kernel_rfl,by kernel_rfl⟩
@[go_sem] theorem F.AiJ:Bp prog 312=some true/\zeroOf prog 312=some [.slice none 0 0,.slice none 0 0]/\sized prog 312=true/\Bq prog 312 0=some 0/\placeOf prog 312 0=some (0,1)/\Bq prog 312 1=some 1/\placeOf prog 312 1=some (1,1):=⟨by kernel_rfl,by kernel_rfl,by kernel_rfl,by kernel_rfl,by kernel_rfl,by kernel_rfl,by kernel_rfl⟩
@[go_sem] theorem F.Aky:Cn prog 320=some 6/\Bp prog 320=some true/\zeroOf prog 320=some [.bool false,.bool false,.bool false,.bool false,.bool false,.bool false]/\AE prog 320=none/\El prog 320=some (6,1)/\U9 prog 320=some (6,1,false):=⟨by kernel_rfl,by kernel_rfl,by kernel_rfl,by kernel_rfl,by kernel_rfl,by kernel_rfl⟩
@[go_sem] theorem F.AiK:Bp prog 323=some true/\zeroOf prog 323=some [.int .i64 0,.int .i64 0,.int .i64 0,.int .i64 0,.string (str []),.int .i64 0,.int .i64 0]/\sized prog 323=true/\placeOf prog 323 0=some (0,1)/\placeOf prog 323 1=some (1,3)/\placeOf prog 323 2=some (4,1)/\placeOf prog 323 3=some (5,2):=⟨by kernel_rfl,by kernel_rfl,by kernel_rfl,by kernel_rfl,by kernel_rfl,by kernel_rfl,by kernel_rfl⟩
@[go_sem] theorem F.AiY:AE prog 330=some (63,1)/\Cs prog 330=some (63,1,24)/\AZ prog 330=true:=⟨by kernel_rfl,by kernel_rfl,by kernel_rfl⟩
@[go_sem] theorem F.AiZ:AE prog 336=none/\El prog 336=some (5,1):=⟨by kernel_rfl,by kernel_rfl⟩
@[go_sem] theorem F.Ai0:AE prog 337=none/\El prog 337=some (5,5):=⟨by kernel_rfl,by kernel_rfl⟩
@[go_sem] theorem F.AiU:AE prog 210=none/\El prog 210=some (64,1):=⟨by kernel_rfl,by kernel_rfl⟩
def jH:List Bool:=[true,true,true,true,false,true,true,false,false,false,true,false,true,false,false,true,false,false,false,false,false,false,false,false,false]
def EJ(l:List Bool):List AV:=l.map λb=>.v (.bool b)
@[go_sem] theorem mU(f:AV->AV):∀ l:List Bool,F0 f (EJ l)=EJ l
 |[]=>rfl
 | x::l=>congrArg (AV.v (.bool x)::·) (mU f l)
@[go_sem] theorem AcF(l:List Bool):(EJ l).length=l.length:=by simp[EJ]
theorem SE(l:List Bool)(k:Nat)(h:k<l.length):((EJ l).drop k).take 1=[.v (.bool (l.getD k false))]:=by grind[List.drop_eq_getElem_cons,EJ]
def tog:List AV:=EJ jH
def u7:List AV:=Go.Lib.deBruijn64tab.map λn=>.v (.int .u8 (n:Nat))
noncomputable abbrev C0:Ctx:=⟨prog,λi=>if i=1 then some tog else if i=0 then some u7 else none⟩
@[go_sem] theorem Ai1(st:St):ev C0 st (.global 1)=.ep .no 0 tog 0:=rfl
@[go_sem] theorem Ai2(st:St):ev C0 st (.global 0)=.ep .no 0 u7 0:=rfl
def A7(n a b:Int):Bool:=decide (a<=n)&&decide (n<=b)
def aF(n a b:Int):Ad C0 121 [I n,I a,I b] [] (B (A7 n a b)) []:=by
 refine Ad.go f121 ?_;unfold f121;refine gO ?_;refine⟨λh=>?_,λh=>?_⟩
 ·refine Al _ ?_;exact .eq (by simp[A7,h])
 ·refine Al _ ?_;exact .eq (by simp[A7,h])
def Ac.ok(p:Ac):Bool:=A7 p.site 0 3&&A7 p.inc 1 99&&A7 p.num 1 999
def Wo(p:Ac):Ad C0 72 [.agg p.c] [] (B p.ok) []:=by
 refine Ad.go f72 ?_;unfold f72;refine gO ?_;refine Ab (aF p.site 0 3) (gO ?_);refine⟨λh=>?_,λh=>?_⟩
 ·refine Ab (aF p.inc 1 99) (gO ?_);refine⟨λh2=>?_,λh2=>?_⟩
  ·refine Ab (aF p.num 1 999) (gO ?_);refine Al _ ?_;exact .eq (by grind[Ac.ok])
  ·refine Al _ ?_;exact .eq (by grind[Ac.ok])
 ·refine Al _ ?_;exact .eq (by simp[Ac.ok,h])
def BF(p q:Ac):Int:=if p.site<q.site then -1 else if q.site<p.site then 1 else if p.inc<q.inc then -1 else if q.inc<p.inc then 1 else if p.num<q.num then -1 else if q.num<p.num then 1 else 0
def vq(p q:Ac):Ad C0 124 [.agg p.c,.agg q.c] [] (I (BF p q)) []:=by
 refine Ad.go f124 ?_;unfold f124;refine gO ?_;refine Ao (α:=Nat) (λi=>⟨[(8,I i),(7,.agg p.c),(3,.ptr 192 0)],[(192,q.c)]⟩) (λi=>i<=3/\(1<=i->p.site=q.site)/\(2<=i->p.inc=q.inc)/\(3<=i->p.num=q.num)) (λi=>3-i) 0 (by simp) ?_ ?_
 ·exact AT.Aq gI gI
 rintro i ⟨hi,h1,h2,h3⟩ J hJ;obtain rfl|rfl|rfl|rfl:i=0\/i=1\/i=2\/i=3:=by omega
 ·refine gO ?_;refine⟨λh=>?_,λh=>⟨λh'=>?_,λh'=>?_⟩⟩
  ·refine Al _ ?_;exact .eq (by grind[BF])
  ·refine Al _ ?_;exact .eq (by grind[BF])
  ·refine hJ _ 1 ⟨by omega,λ_=>by grind,by omega,by omega⟩ (by omega) AK
 ·refine gO ?_;refine⟨λh=>?_,λh=>⟨λh'=>?_,λh'=>?_⟩⟩
  ·refine Al _ ?_;exact .eq (by grind[BF])
  ·refine Al _ ?_;exact .eq (by grind[BF])
  ·refine hJ _ 2 ⟨by omega,λ_=>h1 (by omega),λ_=>by grind,by omega⟩ (by omega) AK
 ·refine gO ?_;refine⟨λh=>?_,λh=>⟨λh'=>?_,λh'=>?_⟩⟩
  ·refine Al _ ?_;exact .eq (by grind[BF])
  ·refine Al _ ?_;exact .eq (by grind[BF])
  ·refine hJ _ 3 ⟨by omega,λ_=>h1 (by omega),λ_=>h2 (by omega),λ_=>by grind⟩ (by omega) AK
 ·refine gO ?_;refine Al _ ?_;exact .eq (by grind[BF])
def LC(p q:Ac):Ad C0 74 [.agg p.c,.agg q.c] [] (I (BF p q)) []:=by
 refine Ad.go f74 ?_;unfold f74;refine gO ?_;refine Ab (vq p q) (gO ?_);exact AQ _
def OW(g:Int):Int:=if g<0\/1073741824<=g then 1 else g+1
def aQ(g:Int):Ad C0 240 [I g] [] (I (OW g)) []:=by
 refine Ad.go f240 ?_;unfold f240;refine gO ?_
 repeat'(with_reducible refine And.intro (λh=>?_) (λh=>?_))
 all_goals(refine CT _ ?_)
 all_goals(try simp(disch:=omega)only[go_sem])
 all_goals(first|refine wb ?_|refine wi ?_|refine .eq ?_)
 all_goals(first|grind[OW,IntKind.wrap,IntKind.bits]|(refine Bool.eq_iff_iff.2 ?_;simp_all[OW,IntKind.wrap,IntKind.signed,IntKind.bits]<;>omega))
def BR.zero(a:BR):Bool:=a.mode==0&&a.AG==0
def J9(a:BR):Ad C0 241 [.agg a.c] [] (B a.zero) []:=by
 refine Ad.go f241 ?_;unfold f241;refine gO ?_
 repeat'(with_reducible refine And.intro (λh=>?_) (λh=>?_))
 all_goals(refine CT _ ?_)
 all_goals(try refine gO ?_)
 all_goals(first|refine wb ?_|refine wi ?_|refine .eq ?_)
 simp_all[BR.zero]
def BE.shaped(r:BE):Bool:=if r.kind=1 then r.AG==1 else if r.kind=2 then A7 r.AG 1 8 else false
def RC(r:BE):Ad C0 278 [.agg r.c] [] (B r.shaped) []:=by
 refine Ad.go f278 ?_;unfold f278;refine gO ?_
 repeat'(with_reducible refine And.intro (λh=>?_) (λh=>?_))
 all_goals(refine CT _ ?_)
 all_goals(try simp(disch:=omega)only[go_sem])
 all_goals(first|refine wb ?_|refine wi ?_|refine .eq ?_)
 all_goals(first|grind[BE.shaped,A7]|(refine Bool.eq_iff_iff.2 ?_;simp_all[BE.shaped,A7]<;>omega))
def BK(m:Int):Bool:=A7 m 1 5
def Pw(m:Int):Ad C0 141 [I m] [] (B (BK m)) []:=by
 refine Ad.go f141 ?_;unfold f141;refine gO ?_
 repeat'(with_reducible refine And.intro (λh=>?_) (λh=>?_))
 all_goals(refine CT _ ?_)
 all_goals(try simp(disch:=omega)only[go_sem])
 all_goals(first|refine wb ?_|refine wi ?_|refine .eq ?_)
 all_goals(first|grind[BK,A7]|(refine Bool.eq_iff_iff.2 ?_;simp_all[BK,A7]<;>omega))
def BE.fits(r:BE)(a:BR):Bool:=r.shaped&&(if r.kind=1 then BK a.mode&&a.AG==0 else a.mode==0&&A7 a.AG 1 r.AG)
def Ic(r:BE)(a:BR):Ad C0 234 [.agg r.c,.agg a.c] [] (B (r.fits a)) []:=by
 refine Ad.go f234 ?_;unfold f234;refine gO ?_
 repeat'(first
  |(with_reducible refine And.intro (λh=>?_) (λh=>?_))
  |((with_reducible show Bi _ _ 278 _ _ _);refine Ai (RC r) ?_ rfl ?_;(focus(exact gI;done));try refine gO ?_)
  |((with_reducible show Bi _ _ 141 _ _ _);refine Ai (Pw a.mode) ?_ rfl ?_;(focus(exact gI;done));try refine gO ?_))
 all_goals(refine CT _ ?_)
 all_goals(try simp(disch:=omega)only[go_sem])
 all_goals(first|refine wb ?_|refine wi ?_|refine .eq ?_)
 all_goals(first|(simp_all[BE.fits,A7]<;>omega)|(refine Bool.eq_iff_iff.2 ?_;simp_all[BE.fits,A7]<;>omega))
def BE.permits(r:BE)(a:BR):Bool:=r.shaped&&(a.zero||r.fits a)
def aS(r:BE)(a:BR):Ad C0 255 [.agg r.c,.agg a.c] [] (B (r.permits a)) []:=by
 refine Ad.go f255 ?_;unfold f255;refine gO ?_
 repeat'(first
  |(with_reducible refine And.intro (λh=>?_) (λh=>?_))
  |((with_reducible show Bi _ _ 278 _ _ _);refine Ai (RC r) ?_ rfl ?_;(focus(exact gI;done));try refine gO ?_)
  |((with_reducible show Bi _ _ 241 _ _ _);refine Ai (J9 a) ?_ rfl ?_;(focus(exact gI;done));try refine gO ?_)
  |((with_reducible show Bi _ _ 234 _ _ _);refine Ai (Ic r a) ?_ rfl ?_;(focus(exact gI;done));try refine gO ?_))
 all_goals(refine CT _ ?_)
 all_goals(try simp(disch:=omega)only[go_sem])
 all_goals(first|refine wb ?_|refine wi ?_|refine .eq ?_)
 all_goals(first|grind[BE.permits]|(refine Bool.eq_iff_iff.2 ?_;simp_all[BE.permits]<;>omega))
def zW(m:Int):List Bool:=if m=5 then [false,true,true,true,true,true] else if m=4 then [false,true,true,true,true,false] else if m=2 then [false,true,true,false,false,false] else if m=1 then [false,true,false,false,false,false] else if m=3 then [false,true,false,true,false,false] else [false,false,false,false,false,false]
def wF(m:Int):Ad C0 290 [I m] [] (.agg (EJ (zW m))) []:=by
 refine Ad.go f290 ?_;unfold f290;refine gO ?_
 repeat'(first
  |(with_reducible refine And.intro (λh=>?_) (λh=>?_))
)
 all_goals(refine CT _ ?_)
 all_goals(try simp(disch:=omega)only[go_sem])
 all_goals(first|refine wb ?_|refine wi ?_|refine .eq ?_)
 all_goals(first|(simp_all[zW,EJ]<;>omega)|(refine Bool.eq_iff_iff.2 ?_;simp_all[zW,EJ]<;>omega))
def BI(a b:Int):Bool:=BK a&&BK b&&(zW a).getD b.toNat false
theorem Bc{m:Int}(h:BK m=true):m=1\/m=2\/m=3\/m=4\/m=5:=by grind[BK,A7]
theorem uY(m:Int):(zW m).length=6:=by
 unfold zW
 repeat' split
 all_goals rfl
def wm(a b:Int):Ad C0 256 [I a,I b] [] (B (BI a b)) []:=by
 refine Ad.go f256 ?_;unfold f256;refine gO ?_;refine Ab (Pw a) (gO ?_);refine⟨λh=>?_,λh=>?_⟩
 ·refine Ab (Pw b) (gO ?_);refine And.intro (λh'=>?_) (λh'=>?_)
  ·have h1:=Bc h';have hb:(b<6)=True:=by grind
   have dK:(0<=b)=True:=by grind
   have hl:=uY a;refine Ai (y':=.agg (EJ (zW a))) (wF a) gI gI ?_;simp(disch:=omega)only[go_sem,SE,mul_one];refine Al _ ?_;exact .eq (by grind[BI])
  ·refine Al _ ?_;exact .eq (by grind[BI])
 ·refine Al _ ?_;exact .eq (by simp[BI,h])
def CF(a b:Int):Bool:=BK a&&BK b&&jH.getD ((a-1)*5+(b-1)).toNat false
def wK(a b:Int):Ad C0 297 [I a,I b] [] (B (CF a b)) []:=by
 refine Ad.go f297 ?_;unfold f297;refine gO ?_;refine Ab (Pw a) (gO ?_);refine⟨λh=>?_,λh=>?_⟩
 ·refine Ab (Pw b) (gO ?_);refine And.intro (λh'=>?_) (λh'=>?_)
  ·have h1:=Bc h;have h2:=Bc h';have ha:(a-1<5)=True:=by grind
   have dt:(0<=a-1)=True:=by grind
   have hb:(b-1<5)=True:=by grind
   have dK:(0<=b-1)=True:=by grind
   have hl:jH.length=25:=rfl;have hk:((a-1)*5+(b-1)).toNat=0+(a-1).toNat*5+(b-1).toNat*1:=by omega
   simp(disch:=omega)only[go_sem,tog,SE,mul_one];refine Al _ ?_;exact .eq (by simp_all[CF])
  ·refine Al _ ?_;exact .eq (by grind[CF])
 ·refine Al _ ?_;exact .eq (by simp[CF,h])
def BE.covers(r:BE)(a b:BR):Bool:=r.permits a&&r.permits b&&(if a.zero||b.zero then b.zero else if r.kind=1 then BI a.mode b.mode else decide (b.AG<=a.AG))
def RA(r:BE)(a b:BR):Ad C0 204 [.agg r.c,.agg a.c,.agg b.c] [] (B (r.covers a b)) []:=by
 refine Ad.go f204 ?_;unfold f204;refine gO ?_
 repeat'(first
  |(with_reducible refine And.intro (λh=>?_) (λh=>?_))
  |((with_reducible show Bi _ _ 255 _ _ _);refine Ai (aS r a) ?_ rfl ?_;(focus(simp(disch:=omega)only[go_sem];done));try refine gO ?_)
  |((with_reducible show Bi _ _ 255 _ _ _);refine Ai (aS r b) ?_ rfl ?_;(focus(exact gI;done));try refine gO ?_)
  |((with_reducible show Bi _ _ 241 _ _ _);refine Ai (J9 a) ?_ rfl ?_;(focus(simp(disch:=omega)only[go_sem];done));try refine gO ?_)
  |((with_reducible show Bi _ _ 241 _ _ _);refine Ai (J9 b) ?_ rfl ?_;(focus(simp(disch:=omega)only[go_sem];done));try simp(disch:=omega)only[go_sem])
  |((with_reducible show Bi _ _ 256 _ _ _);refine Ai (wm a.mode b.mode) ?_ rfl ?_;(focus(exact gI;done));try refine gO ?_))
 all_goals(refine CT _ ?_)
 all_goals(try simp(disch:=omega)only[go_sem])
 all_goals(first|refine wb ?_|refine wi ?_|refine .eq ?_)
 all_goals(first|(simp_all[BE.covers]<;>omega)|(refine Bool.eq_iff_iff.2 ?_;simp_all[BE.covers]<;>omega))
@[go_sem] theorem Aiz(p q:Ac):(p.site==q.site&&(p.inc==q.inc&&p.num==q.num))=decide (p=q):=by
 cases p;cases q;refine Bool.eq_iff_iff.2 ?_;simp
@[go_sem] theorem AiL(p q:BR):(p.mode==q.mode&&p.AG==q.AG)=decide (p=q):=by
 cases p;cases q;refine Bool.eq_iff_iff.2 ?_;simp
def Am(l:List A9)(p:Ac):BR:=match l.find? (λh=>decide (h.proc=p)) with
 |some h=>h.AH
 |none=>⟨0,0⟩
theorem Cp{α:Type}{f:α->Bool}{l:List α}{i:Nat}{b:α}(h:(l.take i).find? f=none)(hb:l[i]?=some b):(l.take (i+1)).find? f=if f b then some b else none:=by
 rw[take_add_one,hb,List.find?_append,h];simp[List.find?]
theorem Hq{α:Type}{f:α->Bool}{l:List α}{i:Nat}{b:α}(h:(l.take i).find? f=none)(hb:l[i]?=some b)(hf:f b=true):l.find? f=some b:=by
 have h1:=Cp h hb;rw[hf]at h1
 conv=>lhs;rw[<- List.take_append_drop (i+1) l]
 rw[List.find?_append,h1];rfl
def wk(l:List A9)(p:Ac)(hl:l.length<=1000000):Ad C0 254 [Bg l,.agg p.c] [] (.agg (Am l p).c) []:=by
 refine Ad.go f254 ?_;unfold f254;refine gO ?_;refine AF (l) (λi=>⟨[(9,I i),(8,I l.length),(7,Bg l),(3,.ptr 192 0),(4,.ptr 256 0)],[(192,p.c),(256,(⟨0,0⟩:BR).c)]⟩) (λi=>(l.take i).find? (λh=>decide (h.proc=p))=none) rfl ?_ ?_
 ·exact Ce
 rintro i ⟨hi,hP⟩ J hJ;refine gO ?_;refine Bo hi (λAP b hb Cg AX=>?_) λBa=>?_
 simp(disch:=omega)only[go_sem,gm,hb]
 ·refine⟨λh=>?_,λh=>?_⟩
  ·have e:Am l p=b.AH:=by unfold Am;rw[Hq hP hb (by simpa using h)]
   simp(disch:=omega)only[go_sem,e];exact AQ _
  ·refine hJ _ (i+1) ⟨by omega,(by rw[Cp hP hb];simp at h;simp[h])⟩ (by omega) AK
 ·subst Ba;rw[take_length]at hP;have e:Am l p=⟨0,0⟩:=by unfold Am;rw[hP]
  simp(disch:=omega)only[go_sem,e];exact AQ _
def D7(l:List A9):List Ac:=l.map (·.proc)
def J8(q:Queue)(p:Ac)(hl:q.holds.length<=1000000):Ad C0 203 [.agg q.c,.agg p.c] [] (.agg (Am q.holds p).c) []:=by
 refine Ad.go f203 ?_;unfold f203;refine gO ?_;refine Ab (wk q.holds p hl) ?_;refine gO ?_;exact AQ _
def FG(l:List Bh)(p:Ac):Int:=match l.findIdx? (λh=>decide (h.proc=p)) with
 |some i=>i
 |none=>-1
def Hj{α:Type}{f:α->Bool}{l:List α}{i:Nat}(h:(l.take i).find? f=none):∀ b,l[i]?=some b->f b=true->l.findIdx? f=some i:=by
 intro b hb hf;rw[List.findIdx?_eq_some_iff_getElem];have hi:i<l.length:=by
  rcases Nat.lt_or_ge i l.length with h|h
  ·exact h
  ·rw[List.getElem?_eq_none h]at hb;cases hb
 refine⟨hi,?_,λj hj=>?_⟩
 ·rw[gE hi]at hb;injection hb with hb
  rw[hb];exact hf
 ·rw[List.find?_eq_none]at h;have:=h (l[j]) (by
   rw[List.mem_take_iff_getElem];exact⟨j,by omega,rfl⟩)
  simpa using this
def Vm(l:List Bh)(p:Ac)(hl:l.length<=1000000):Ad C0 257 [Ct l,.agg p.c] [] (I (FG l p)) []:=by
 refine Ad.go f257 ?_;unfold f257;refine gO ?_;refine AF (l) (λi=>⟨[(9,I i),(8,I l.length),(7,Ct l),(3,.ptr 192 0)],[(192,p.c)]⟩) (λi=>(l.take i).find? (λh=>decide (h.proc=p))=none) rfl ?_ ?_
 ·exact Ce
 rintro i ⟨hi,hP⟩ J hJ;refine gO ?_;refine Bo hi (λAP b hb Cg AX=>?_) λBa=>?_
 simp(disch:=omega)only[go_sem,gm,hb]
 ·refine⟨λh=>?_,λh=>?_⟩
  ·have e:FG l p=i:=by unfold FG;rw[Hj hP b hb (by simpa using h)]
   simp(disch:=omega)only[go_sem,e];exact AQ _
  ·refine hJ _ (i+1) ⟨by omega,(by rw[Cp hP hb];simp at h;simp[h])⟩ (by omega) AK
 ·subst Ba;rw[take_length]at hP;have e:FG l p = -1:=by
   unfold FG;have:l.findIdx? (λh=>decide (h.proc=p))=none:=by
    rw[List.findIdx?_eq_none_iff];rw[List.find?_eq_none]at hP;intro x hx;simpa using hP x hx
   rw[this]
  simp(disch:=omega)only[go_sem,e];exact AQ _
def reserved(s:Bs):Bool:=s==[97,108,108]||s==[97,110,121]||s==[111,102]||s==[112,114,105,111]||s==[108,105,109,105,116]
def vw(s:Bs):Ad C0 140 [.v (.string (str s))] [] (B (reserved s)) []:=by
 refine Ad.go f140 ?_;unfold f140;simp(disch:=omega)only[go_sem]
 repeat'(first
  |(with_reducible refine And.intro (λh=>?_) (λh=>?_))
)
 all_goals(refine CT _ ?_)
 all_goals(try simp(disch:=omega)only[go_sem])
 all_goals(refine .eq ?_)
 all_goals(first|(simp_all[reserved]<;>omega)|(refine Bool.eq_iff_iff.2 ?_;simp_all[reserved]<;>omega))
@[go_sem] theorem AgL(l:Bs)(i:Nat):(str l)[i]?=l[i]?:=by
 show (ByteArray.mk l.toArray)[i]?=l[i]?
 by_cases h:i<l.length
 ·have h1:i<(ByteArray.mk l.toArray).size:=h;rw[getElem?_pos _ i h1,getElem?_pos _ i h];rfl
 ·have h1:¬ i<(ByteArray.mk l.toArray).size:=h;rw[getElem?_neg _ i h1,getElem?_neg _ i h]
def letter(c:UInt8):Bool:=decide (97<=(c.toNat:Int))&&decide ((c.toNat:Int)<=122)
def other(c:UInt8):Bool:=decide (48<=(c.toNat:Int))&&decide ((c.toNat:Int)<=57)||(c.toNat:Int)==95||(c.toNat:Int)==45
def zw(i:Nat)(c:UInt8):Bool:=letter c||(!decide (i=0)&&other c)
def Cu{α:Type}(f:Nat->α->Bool)(l:List α):Bool:=l.zipIdx.all λx=>f x.2 x.1
theorem CB{α:Type}{f:Nat->α->Bool}{l:List α}{i:Nat}{b:α}(hb:l[i]?=some b):Cu f (l.take (i+1))=(Cu f (l.take i)&&f i b):=by
 have hi:i<l.length:=by
  rcases Nat.lt_or_ge i l.length with h|h
  ·exact h
  ·rw[List.getElem?_eq_none h]at hb;cases hb
 simp only[Cu,take_add_one,hb,Option.toList_some,List.zipIdx_append,List.all_append,List.length_take];simp[Nat.min_eq_left (Nat.le_of_lt hi)]
theorem B5{α:Type}{f:Nat->α->Bool}{l:List α}{i:Nat}{b:α}(hb:l[i]?=some b)(h:f i b=false):Cu f l=false:=by
 unfold Cu;rw[List.all_eq_false];refine⟨(b,i),?_,by simp[h]⟩;rw[List.mk_mem_zipIdx_iff_getElem?];exact hb
def B9(s:Bs):Bool:=decide (1<=s.length)&&decide (s.length<=12)&&!reserved s&&Cu zw s
def aV(s:Bs):Ad C0 88 [.v (.string (str s))] [] (B (B9 s)) []:=by
 refine Ad.go f88 ?_;unfold f88
 by_cases h1:s.length<1
 ·have e1:((s.length:Int)<1)=True:=by simp;omega
  simp(disch:=omega)only[go_sem,e1];refine Al _ ?_;exact .eq (by simp[B9];omega)
 by_cases h2:12<s.length
 ·have e1:((s.length:Int)<1)=False:=by simp;omega
  have e2:(12<(s.length:Int))=True:=by simp;omega
  simp(disch:=omega)only[go_sem,e1,e2,decide_false];refine Al _ ?_;exact .eq (by simp[B9];omega)
 have e1:((s.length:Int)<1)=False:=by simp;omega
 have e2:(12<(s.length:Int))=False:=by simp;omega
 simp(disch:=omega)only[go_sem,e1,e2,decide_false];refine Ab (vw s) ?_;refine gO ?_;refine⟨λh=>?_,λh=>?_⟩
 ·refine Al _ ?_;exact .eq (by simp[B9,h])
 refine AF (s) (λi=>⟨[(21,I i),(20,I s.length),(0,.v (.string (str s)))],[]⟩) (λi=>Cu zw (s.take i)=true) rfl ?_ ?_
 ·exact Ce
 rintro i ⟨hi,hP⟩ J hJ;refine gO ?_;refine Bo hi (λAP b hb Cg AX=>?_) λBa=>?_
 simp(disch:=omega)only[go_sem,gm,hb]
 ·repeat'(with_reducible refine And.intro (λh=>?_) (λh=>?_))
  all_goals(first
   | refine hJ _ (i+1) ⟨by omega,by rw[CB hb,hP];simp_all[zw,letter,other]⟩ (by omega) AK
   |(have hz:zw i b=false:=by(simp_all[zw,letter,other]<;>omega)
     have e:B9 s=false:=by simp[B9,B5 hb hz]
     refine AY ⟨[],[],[]⟩ _ rfl ⟨rfl,rfl⟩ (by simp) ?_ trivial;simp(disch:=omega)only[go_sem,e]))
 ·subst Ba;rw[take_length]at hP;have e:B9 s=true:=by simp[B9,hP,h];omega
  simp(disch:=omega)only[go_sem,e];exact AQ _
def kP(r:BE):Ad C0 229 [.agg r.c] [] (B (B9 r.name&&r.shaped&&A7 r.home 0 3)) []:=by
 refine Ad.go f229 ?_;unfold f229;simp(disch:=omega)only[go_sem]
 repeat'(first
  |(with_reducible refine And.intro (λh=>?_) (λh=>?_))
  |((with_reducible show Bi _ _ 88 _ _ _);refine Ai (aV r.name) ?_ rfl ?_;(focus(simp(disch:=omega)only[go_sem];done));try simp(disch:=omega)only[go_sem])
  |((with_reducible show Bi _ _ 278 _ _ _);refine Ai (RC r) ?_ rfl ?_;(focus(simp(disch:=omega)only[go_sem];done));try simp(disch:=omega)only[go_sem]))
 all_goals(refine CT _ ?_)
 all_goals(try simp(disch:=omega)only[go_sem])
 all_goals(refine .eq ?_)
 all_goals(first|(simp_all[A7]<;>omega)|(refine Bool.eq_iff_iff.2 ?_;simp_all[A7]<;>omega))
def Il:BE:=⟨[],1,1,0⟩
def Ir:BE:=⟨[],2,8,0⟩
def Bh.ok(w:Bh):Bool:=w.proc.ok&&(Il.fits w.AH||Ir.fits w.AH)&&A7 w.prio 0 7&&A7 w.Ec 0 3
def wL(w:Bh):Ad C0 298 [.agg w.c] [] (B w.ok) []:=by
 refine Ad.go f298 ?_;unfold f298;refine gO ?_
 repeat'(first
  |(with_reducible refine And.intro (λh=>?_) (λh=>?_))
  |((with_reducible show Bi _ _ 72 _ _ _);refine Ai (Wo w.proc) ?_ rfl ?_;(focus(exact gI;done));try refine gO ?_)
  |((with_reducible show Bi _ _ 234 _ _ _);refine Ai (Ic ⟨[],1,1,0⟩ w.AH) ?_ rfl ?_;(focus(simp(disch:=omega)only[go_sem];done));try refine gO ?_)
  |((with_reducible show Bi _ _ 234 _ _ _);refine Ai (Ic ⟨[],2,8,0⟩ w.AH) ?_ rfl ?_;(focus(exact gI;done));try refine gO ?_))
 all_goals(refine CT _ ?_)
 all_goals(try simp(disch:=omega)only[go_sem])
 all_goals(refine .eq ?_)
 all_goals(first|(simp_all[Bh.ok,A7,Il,Ir]<;>omega)|(refine Bool.eq_iff_iff.2 ?_;simp_all[Bh.ok,A7,Il,Ir]<;>omega))
def Ht(l:List Bh)(i:Nat)(w:Bh):Bool:=w.ok&&decide (FG l w.proc=(i:Int))
def Ef(l:List Bh):Bool:=decide (l.length<=8)&&Cu (Ht l) l
def wC(l:List Bh):Ad C0 280 [Ct l] [] (B (Ef l)) []:=by
 refine Ad.go f280 ?_;unfold f280
 by_cases h1:8<l.length
 ·have e1:(8<(l.length:Int))=True:=by grind
  refine gS ?_;refine Al _ ?_;exact .eq (by grind[Ef])
 have e1:(8<(l.length:Int))=False:=by grind
 refine gS ?_;refine AF (l) (λi=>⟨[(10,I i),(9,I l.length),(8,Ct l),(0,Ct l)],[]⟩) (λi=>Cu (Ht l) (l.take i)=true) rfl ?_ ?_
 ·exact Ce
 rintro i ⟨hi,hP⟩ J hJ;refine gO ?_;refine Bo hi (λAP b hb Cg AX=>?_) λBa=>?_
 simp(disch:=omega)only[go_sem,hb]
 ·refine Ab (wL b) ?_;cases hw:b.ok
  ·have e:Ef l=false:=by grind[Ef,B5,Ht]
   simp only[go_sem,e];exact AQ _
  refine gO ?_;refine Ab (Vm l b.proc (by omega)) (gO ?_);refine⟨λh=>?_,λh=>?_⟩
  ·have e:Ef l=false:=by grind[Ef,B5,Ht]
   simp only[go_sem,e];exact AQ _
  ·refine hJ _ (i+1) ⟨by omega,(by grind[CB,Ht])⟩ (by omega) AK
 ·subst Ba;rw[take_length]at hP;have e:Ef l=true:=by grind[Ef]
  refine gS ?_;exact AQ _
def Bv(l:List Bh)(p:Ac):List Bh:=l.filter λw=>decide (w.proc≠p)
def Vi(l:List Bh)(p:Ac)(hl:l.length<=1000000):Ad C0 189 [Ct l,.agg p.c] [] (.BC [Ct (Bv l p),B (decide ((Bv l p).length<l.length))]) []:=by
 refine Ad.go f189 ?_;unfold f189;refine gO ?_;refine AF (l) (λi=>⟨[(11,I i),(10,I l.length),(9,Ct l),(0,Ct l),(3,.ptr 192 0),(6,.sl (.own 1408 0) 7 ((Bv (l.take i) p).map Bh.c))],[(192,p.c)]⟩) (λi=>(Bv (l.take i) p).length<=i) ((by simp[Bv])) ?_ ?_
 ·exact Ce
 rintro i ⟨hi,hP⟩ J hJ;refine gO ?_;refine Bo hi (λAP b hb Cg AX=>?_) λBa=>?_
 simp(disch:=omega)only[go_sem,hb]
 ·refine⟨λh=>?_,λh=>?_⟩
  ·refine hJ _ (i+1) ⟨by omega,?_⟩ (by omega) (AT.Aq ?_ gI)
   ·grind[Bv]
   ·refine gO ?_;exact .sl (by grind[Bv,take_add_one,Bh.c])
  ·refine hJ _ (i+1) ⟨by omega,?_⟩ (by omega) (AT.Aq ?_ gI)
   ·grind[Bv]
   ·refine gO ?_;exact .sl (by grind[Bv,take_add_one])
 ·subst Ba;rw[take_length]at hP;refine AY ⟨[],[],[1408]⟩ _ rfl ⟨rfl,rfl⟩ (by simp) ?_ trivial;refine gO ?_;exact .eq (by simp)
def mT(l:List Bool)(n:Nat)(h:l.length=n):(EJ l).take n=EJ l:=List.take_of_length_le (by simp[EJ,h])
def mV(l:List Bool)(k:Nat)(x:Bool)(h:k<l.length):(EJ l).take k++[.v (.bool x)]++(EJ l).drop (k+1)=EJ (l.set k x):=by simp_all[List.set_eq_take_append_cons_drop,EJ]
def Fz(seen:List Bool)(m:Int):Bool:=(List.range 6).all λk=>!seen.getD k false||CF k m
def Cl(r:BE):List BR->Int->List Bool->Bool
 |[],_,_=>true
 | a::l,s,seen=>r.permits a&&!decide (r.AG<s+a.AG)&&(if a.mode=0 then Cl r l (s+a.AG) seen else Fz seen a.mode&&Cl r l (s+a.AG) (seen.set a.mode.toNat true))
def pL:List Bool:=[false,false,false,false,false,false]
def BE.compat(r:BE)(l:List BR):Bool:=r.shaped&&Cl r l 0 pL
def NC{r:BE}(h:r.shaped=true):1<=r.AG/\r.AG<=8:=by grind[BE.shaped,A7]
def Lt{r:BE}{a:BR}(h:r.permits a=true):0<=a.AG/\a.AG<=8/\(a.mode=0\/BK a.mode=true):=by
 simp[BE.permits]at h;obtain⟨h1,h2|h2⟩:=h
 ·grind[BR.zero]
 ·simp only[BE.fits,Bool.and_eq_true]at h2;obtain⟨_,h3⟩:=h2;split at h3
  ·grind
  ·simp[A7]at h3;have:=NC h1;omega
def wB(r:BE)(l:List BR)(hl:l.length<=1000000):Ad C0 279 [.agg r.c,TK l] [] (B (r.compat l)) []:=by
 refine Ad.go f279 ?_;unfold f279;refine gO ?_;refine Ab (RC r) ?_;cases hs:r.shaped
 ·have e:r.compat l=false:=by simp[BE.compat,hs]
  refine gS ?_;exact AQ _
 obtain⟨hu1,uH⟩:=NC hs;have dA:r.compat l=Cl r l 0 pL:=by simp[BE.compat,hs]
 refine gO ?_;refine Ao (α:=Nat × Int × List Bool) (λq=>⟨[(17,I q.1),(16,I l.length),(15,TK l),(7,I q.2.1),(6,.ptr 384 0),(5,B true),(2,.ptr 128 0)],[(384,EJ q.2.2),(128,r.c)]⟩)
  (λq=>q.1<=l.length/\q.2.2.length=6/\0<=q.2.1/\q.2.1<=8/\Cl r (l.drop q.1) q.2.1 q.2.2=Cl r l 0 pL) (λq=>l.length-q.1) (0,0,pL) ⟨by simp,rfl,by simp,by simp,by simp⟩ ?_ ?_
 ·refine AT.Aq ?_ ?_
  ·exact gI
  ·simp only[go_sem,EJ,pL]
 rintro⟨i,sum,seen⟩ ⟨hi,gr,mb,hs8,hc⟩ J hJ
 replace hi:i<=l.length:=hi
 replace gr:seen.length=6:=gr
 replace mb:0<=sum:=mb
 replace hs8:sum<=8:=hs8
 replace hc:Cl r (l.drop i) sum seen=Cl r l 0 pL:=hc
 refine gO ?_;refine ⟨λAP=>?_,λJX=>?_⟩
 ·have H0:i<l.length:=by grind
  obtain⟨b,hb⟩:∃ b,l[i]?=some b:=⟨_,gE H0⟩;have hd:l.drop i=b::l.drop (i+1):=by grind[List.drop_eq_getElem_cons]
  rw[hd]at hc;simp[Cl]at hc;simp only[go_sem,hb];refine Ab (aS r b) ?_;cases hp:r.permits b
  ·have e:r.compat l=false:=by grind
   simp only[go_sem,e];exact AQ _
  obtain⟨dK,hb8,Cg⟩:=Lt hp
  by_cases bg:r.AG<sum+b.AG
  ·have e:r.compat l=false:=by grind
   simp(disch:=omega)only[go_sem,e,bg];exact AQ _
  rw[hp]at hc
  by_cases hm:b.mode=0
  ·have pH:(b.mode==0)=true:=by grind
   simp(disch:=omega)only[go_sem,bg,pH];refine hJ _ (i+1,sum+b.AG,seen) ⟨by omega,gr,by grind,by grind,?_⟩ (by omega) AK;grind
  have pH:(b.mode==0)=false:=by grind
  have hmo:BK b.mode=true:=by grind
  have hmc:=Bc hmo;have bc:(Fz seen b.mode&&Cl r (l.drop (i+1)) (sum+b.AG) (seen.set b.mode.toNat true))=Cl r l 0 pL:=by grind
  simp(disch:=omega)only[go_sem,bg,pH,mT];refine Ao (α:=Nat) (λk=>⟨[(42,I k),(41,.agg (EJ seen)),(9,.ptr 576 0),(17,I i),(16,I l.length),(15,TK l),(7,I (sum+b.AG)),(6,.ptr 384 0),(5,B true),(2,.ptr 128 0)],[(576,b.c),(384,EJ seen),(128,r.c)]⟩)
   (λk=>k<=6/\(List.range k).all (λj=>!seen.getD j false||CF j b.mode)=true) (λk=>6-k) 0 ⟨by omega,rfl⟩ ?_ ?_
  ·refine AT.Aq ?_ ?_
   ·exact gI
   ·exact gI
  rintro k ⟨hk,hka⟩ J2 Vo
  by_cases hk6:k<6
  ·have AeK:((k:Int)<6)=True:=by grind
   have Y5:seen.getD k false=true->CF k b.mode=false->r.compat l=false:=λh1 h2=>by
    have:Fz seen b.mode=false:=by grind[Fz]
    rw[dA,<- bc,this];rfl
   have Ae9:(!seen.getD k false||CF k b.mode)=true->(List.range (k+1)).all (λj=>!seen.getD j false||CF j b.mode)=true:=λh=>by grind
   simp(disch:=omega)only[go_sem,AeK,SE,mul_one];refine⟨λh=>?_,λh=>?_⟩
   ·refine Ab (wK k b.mode) ?_;cases tz:CF k b.mode
    ·simp only[go_sem,Y5 h tz];exact AQ _
    ·refine gO ?_;refine Vo _ (k+1) ⟨by omega,Ae9 (by grind)⟩ (by omega) AK
   ·refine Vo _ (k+1) ⟨by omega,Ae9 (by grind)⟩ (by omega) AK
  ·have AeK:((k:Int)<6)=False:=by grind
   have TM:k=6:=by omega
   subst TM;have hso:Fz seen b.mode=true:=hka;rw[hso]at bc;have hm6:(b.mode<6)=True:=by grind
   have uD:(0<=b.mode)=True:=by grind
   simp(disch:=omega)only[go_sem,mul_one,mV];refine hJ _ (i+1,sum+b.AG,seen.set b.mode.toNat true) ⟨by omega,by grind,by grind,by grind,by grind⟩ (by omega) AK
 ·have Ba:i=l.length:=by grind
  subst Ba;rw[List.drop_length]at hc;have e:r.compat l=true:=by rw[dA,<- hc];rfl
  simp only[go_sem,e];exact AQ _
end Go.Rd
