/- part 30 of the proof -/
import Derived.Test.YteliegkcmjimoaaGreatDoorW25
set_option linter.all false
open Go Go.Abs Go.Proofs
set_option maxRecDepth 100000
namespace Go.Rd
set_option maxHeartbeats 8000000
open List (map_nil)
open Tryz
def E9(l:Ledger)(IW:Int):Ledger × Int:=if !Bx l then (CI,2) else if decide (IW<1)||decide (99<IW) then (CI,1) else if 0<=L5 l.AA IW then (CI,11) else if l.AA.length=4 then (CI,4) else (⟨l.entries,l.AA++[⟨IW,l.entries.length⟩]⟩,0)
def kN(l:Ledger)(IW:Int):Ad C0 226 [.agg l.c,I IW] [] (.BC [.agg (E9 l IW).1.c,I (E9 l IW).2]) []:=by
 refine Ad.go f226 ?_;unfold f226;refine gO ?_;refine Ab (M6 l) ?_;cases hv:Bx l
 ·have e:E9 l IW=(CI,2):=by simp[E9,hv]
  simp(disch:=omega)only[go_sem,Bool.not_false,e,CI,map_nil];exact Gw _
  all_goals(try(simp(disch:=omega)only[go_sem]))
 have nW:l.entries.length<=72/\l.AA.length<=4:=by simp only[Bx,Bool.and_eq_true,decide_eq_true_eq]at hv;omega
 have ID:l.AA.length+1<=4294967296:=by omega
 simp(disch:=omega)only[go_sem,Bool.not_true]
 by_cases c1:IW<1
 ·have e:E9 l IW=(CI,1):=by simp[E9,hv,c1]
  simp(disch:=omega)only[go_sem,eq_true c1,decide_true,e,CI,map_nil];exact Gw _
  all_goals(try(simp(disch:=omega)only[go_sem]))
 by_cases c2:99<IW
 ·have e:E9 l IW=(CI,1):=by simp[E9,hv,c2]
  simp(disch:=omega)only[go_sem,eq_false c1,eq_true c2,decide_true,decide_false,e,CI,map_nil];exact Gw _
  all_goals(try(simp(disch:=omega)only[go_sem]))
 simp(disch:=omega)only[go_sem,eq_false c1,eq_false c2,decide_false];refine Ab (M8 l.AA IW) ?_
 by_cases c3:0<=L5 l.AA IW
 ·have e:E9 l IW=(CI,11):=by simp[E9,hv,c1,c2,c3]
  simp(disch:=omega)only[go_sem,eq_true c3,decide_true,e,CI,map_nil];exact Gw _
  all_goals(try(simp(disch:=omega)only[go_sem]))
 simp(disch:=omega)only[go_sem,eq_false c3,decide_false]
 by_cases c4:l.AA.length=4
 ·have e:E9 l IW=(CI,4):=by simp[E9,hv,c1,c2,c3,c4]
  have e4:((l.AA.length:Int)==4)=true:=by simp[c4]
  simp(disch:=omega)only[go_sem,e4,e,CI,map_nil];exact Gw _
  all_goals(try(simp(disch:=omega)only[go_sem]))
 have e4:((l.AA.length:Int)==4)=false:=by simp;omega
 simp(disch:=omega)only[go_sem,e4];have e:E9 l IW=(⟨l.entries,l.AA++[⟨IW,l.entries.length⟩]⟩,0):=by simp[E9,hv,c1,c2,c3,c4]
 rw[e];refine Dj 262143 [(0,1,0),(1,2,0),(2,4,2),(3,8,5),(4,16,0),(5,32,0),(6,64,32),(7,128,88),(8,256,0),(9,512,0),(10,1024,512),(11,2048,1024),(12,4096,2304),(13,8192,4096),(14,16384,8320),(15,32768,16392),(16,65536,65535),(17,131072,131071)] [0,1,2,16,32,256,512,3,17,33,257,513,6,18,34,258,514,48,272,528,96,288,544,768,1536,7,19,35,259,515,49,273,529,97,289,545,769,1537,22,38,262,518,50,274,530,98,290,546,770,1538,112,304,560,784,1552,352,608,800,1568,1792,3584,15,23,39,263,519,51,275,531,99,291,547,771,1539,113,305,561,785,1553,353,609,801,1569,1793,3585,54,278,534,102,294,550,774,1542,114,306,562,786,1554,354,610,802,1570,1794,3586,368,624,816,1584,1808,3600,864,1632,1824,3616,3840,31,47,271,527,55,279,535,103,295,551,775,1543,115,307,563,787,1555,355,611,803,1571,1795,3587,369,625,817,1585,1809,3601,865,1633,1825,3617,3841,118,310,566,790,1558,358,614,806,1574,1798,3590,370,626,818,1586,1810,3602,866,1634,1826,3618,3842,880,1648,1840,3632,3856,1888,3680,3872,7936,63,287,543,111,303,559,783,1551,119,311,567,791,1559,359,615,807,1575,1799,3591,371,627,819,1587,1811,3603,867,1635,1827,3619,3843,881,1649,1841,3633,3857,1889,3681,3873,7937,374,630,822,1590,1814,3606,870,1638,1830,3622,3846,882,1650,1842,3634,3858,1890,3682,3874,7938,1904,3696,3888,7952,3936,7968,16128,127,319,575,799,1567,367,623,815,1583,1807,3599,375,631,823,1591,1815,3607,871,1639,1831,3623,3847,883,1651,1843,3635,3859,1891,3683,3875,7939,1905,3697,3889,7953,3937,7969,16129,886,1654,1846,3638,3862,1894,3686,3878,7942,1906,3698,3890,7954,3938,7970,16130,3952,7984,16144,8032,16160,255,383,639,831,1599,1823,3615,879,1647,1839,3631,3855,887,1655,1847,3639,3863,1895,3687,3879,7943,1907,3699,3891,7955,3939,7971,16131,3953,7985,16145,8033,16161,1910,3702,3894,7958,3942,7974,16134,3954,7986,16146,8034,16162,8048,16176,16224,511,767,895,1663,1855,3647,3871,1903,3695,3887,7951,1911,3703,3895,7959,3943,7975,16135,3955,7987,16147,8035,16163,8049,16177,16225,3958,7990,16150,8038,16166,8050,16178,16226,16240,1023,1791,1919,3711,3903,7967,3951,7983,16143,3959,7991,16151,8039,16167,8051,16179,16227,16241,8054,16182,16230,16242,2047,3839,3967,7999,16159,8047,16175,8055,16183,16231,16243,16246,4095,8063,16191,16239,16247,8191,16255,16383,32767,65535,131071,262143] (λm=>⟨XE m [(1,28,(if m / 8%2=1 then .undef else .sl (.own 1792 0) 5 [])),(2,29,.ptr 128 0),(4,30,Et l.entries),(8,31,.sl (.own 1984 0) 5 (l.entries.map Entry.c)),(16,32,(if m / 128%2=1 then .undef else .sl (.own 2048 0) 2 [])),(32,33,.ptr 128 1),(64,34,NA l.AA),(128,35,(if m / 16384%2=1 then .undef else .sl (.own 2240 0) 2 (l.AA.map Save.c))),(256,36,I IW),(512,37,.ptr 128 0),(1024,38,Et l.entries),(2048,39,I l.entries.length),(4096,40,.agg [I IW,I l.entries.length]),(8192,41,.sl (.own 2624 0) 2 [[I IW,I l.entries.length]]),(16384,42,.sl (.own 2688 0) 2 (l.AA.map Save.c++[[I IW,I l.entries.length]])),(32768,43,.agg [.sl (.own 1984 0) 5 (l.entries.map Entry.c),.sl (.own 2688 0) 2 (l.AA.map Save.c++[[I IW,I l.entries.length]])]),(131072,5,I 0)]++[(1,I IW),(2,.ptr 128 0),(4,.ptr 256 0)],[(256,(if m / 65536%2=1 then [.sl (.own 1984 0) 5 (l.entries.map Entry.c),.sl (.own 2688 0) 2 (l.AA.map Save.c++[[I IW,I l.entries.length]])] else [.v (.slice none 0 0),.v (.slice none 0 0)])),(128,l.c)]⟩) ?_ ?_ ?_ B6
 ·exact AK
 ·simp (maxSteps:=100000000)only[Di,Dh,D0,DZ,and_true,Nat.reduceDiv,Nat.reduceMod,Nat.reduceAnd,Nat.reduceEqDiff,reduceIte,true_and,and_false,false_and,and_self]
  repeat'(with_reducible refine And.intro ?_ ?_)
  all_goals simp(disch:=omega)only[go_sem,List.nil_append]
  all_goals exact AK
 refine gO ?_;refine CU ⟨[],[],[1984,2688]⟩ _ ?_;simp(disch:=omega)only[go_sem]
 try exact .eq (by simp[Ledger.c,Save.c])
end Go.Rd
