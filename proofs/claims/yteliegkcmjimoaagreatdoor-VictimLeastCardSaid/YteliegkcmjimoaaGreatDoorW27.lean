/- part 27 of the proof -/
import Derived.Test.YteliegkcmjimoaaGreatDoorW25
set_option linter.all false
open Go Go.Abs Go.Proofs
set_option maxRecDepth 100000
namespace Go.Rd
set_option maxHeartbeats 8000000
open List (map_append map_cons map_nil nil_append)
open Tryz
def G2(l:Ledger)(e:Entry):Ledger × Int:=if !Bx l then (CI,2) else if !Bx ⟨l.entries++[e],l.AA⟩ then (CI,1) else (⟨l.entries++[e],l.AA⟩,0)
def lb(l:Ledger)(e:Entry):Ad C0 274 [.agg l.c,.agg e.c] [] (.BC [.agg (G2 l e).1.c,I (G2 l e).2]) []:=by
 refine Ad.go f274 ?_;unfold f274;refine gO ?_;refine Ab (M6 l) ?_;cases hv:Bx l
 ·have e:G2 l e=(CI,2):=by simp[G2,hv]
  simp(disch:=omega)only[go_sem,Bool.not_false,e,CI,map_nil];exact Gw _
  all_goals(try(simp(disch:=omega)only[go_sem]))
 have nW:l.entries.length<=72/\l.AA.length<=4:=by simp only[Bx,Bool.and_eq_true,decide_eq_true_eq]at hv;omega
 have ID:l.entries.length+1<=4294967296:=by omega
 simp(disch:=omega)only[go_sem,Bool.not_true];refine Dj 16383 [(0,1,0),(1,2,0),(2,4,2),(3,8,5),(4,16,0),(5,32,16),(6,64,40),(7,128,0),(8,256,0),(9,512,256),(10,1024,704),(11,2048,1088),(12,4096,0),(13,8192,8191)] [0,1,2,16,128,256,4096,3,17,129,257,4097,6,18,130,258,4098,48,144,272,4112,384,4224,768,4352,7,19,131,259,4099,49,145,273,4113,385,4225,769,4353,22,134,262,4102,50,146,274,4114,386,4226,770,4354,176,304,4144,400,4240,784,4368,896,4480,4864,15,23,135,263,4103,51,147,275,4115,387,4227,771,4355,177,305,4145,401,4241,785,4369,897,4481,4865,54,150,278,4118,390,4230,774,4358,178,306,4146,402,4242,786,4370,898,4482,4866,432,4272,816,4400,912,4496,4880,4992,31,143,271,4111,55,151,279,4119,391,4231,775,4359,179,307,4147,403,4243,787,4371,899,4483,4867,433,4273,817,4401,913,4497,4881,4993,182,310,4150,406,4246,790,4374,902,4486,4870,434,4274,818,4402,914,4498,4882,4994,944,4528,4912,5008,63,159,287,4127,399,4239,783,4367,183,311,4151,407,4247,791,4375,903,4487,4871,435,4275,819,4403,915,4499,4883,4995,945,4529,4913,5009,438,4278,822,4406,918,4502,4886,4998,946,4530,4914,5010,5040,127,191,319,4159,415,4255,799,4383,911,4495,4879,439,4279,823,4407,919,4503,4887,4999,947,4531,4915,5011,5041,950,4534,4918,5014,5042,255,383,4223,447,4287,831,4415,927,4511,4895,5007,951,4535,4919,5015,5043,5046,511,4351,895,4479,959,4543,4927,5023,5047,1023,4607,4991,5055,2047,5119,4095,6143,8191,16383] (λm=>⟨XE m [(1,11,(if m / 8%2=1 then .undef else .sl (.own 704 0) 5 [])),(2,12,.ptr 128 0),(4,13,Et l.entries),(8,14,(if m / 64%2=1 then .undef else .sl (.own 896 0) 5 (l.entries.map Entry.c))),(16,15,.agg e.c),(32,16,.sl (.own 1024 0) 5 [e.c]),(64,17,.sl (.own 1088 0) 5 ((l.entries++[e]).map Entry.c)),(128,18,(if m / 1024%2=1 then .undef else .sl (.own 1152 0) 2 [])),(256,19,.ptr 128 1),(512,20,NA l.AA),(1024,21,.sl (.own 1344 0) 2 (l.AA.map Save.c)),(2048,22,.agg [.sl (.own 1088 0) 5 ((l.entries++[e]).map Entry.c),.sl (.own 1344 0) 2 (l.AA.map Save.c)]),(4096,6,.ptr 384 0)]++[(2,.ptr 128 0),(3,.ptr 192 0),(4,.ptr 256 0)],((if m / 4096%2=1 then [(384,(if m / 8192%2=1 then [.sl (.own 1088 0) 5 ((l.entries++[e]).map Entry.c),.sl (.own 1344 0) 2 (l.AA.map Save.c)] else [.v (.slice none 0 0),.v (.slice none 0 0)]))] else [])++[(128,l.c),(192,e.c),(256,[.v (.slice none 0 0),.v (.slice none 0 0)])])⟩) ?_ ?_ ?_ B6
 ·exact AK
 ·simp (maxSteps:=100000000)only[Di,Dh,D0,DZ,and_true,Nat.reduceDiv,Nat.reduceMod,Nat.reduceAnd,Nat.reduceEqDiff,reduceIte,true_and,and_false,false_and,and_self]
  repeat'(with_reducible refine And.intro ?_ ?_)
  all_goals simp(disch:=omega)only[go_sem,nil_append,map_append,map_cons,map_nil]
  all_goals exact AT.Aq (by simp(disch:=omega)only[go_sem,map_append,map_cons,map_nil]) (by simp(disch:=omega)only[go_sem,nil_append,List.cons_append,map_append,map_cons,map_nil])
 simp(disch:=omega)only[go_sem,nil_append,List.cons_append];refine B4 [1088,1344] (M6 ⟨l.entries++[e],l.AA⟩) gI rfl trivial ?_;cases hx:Bx ⟨l.entries++[e],l.AA⟩
 ·have e:G2 l e=(CI,1):=by simp[G2,hv,hx]
  simp(disch:=omega)only[go_sem,Bool.not_false,e,CI,map_nil];exact Gw _
  all_goals(try(simp(disch:=omega)only[go_sem]))
 ·have e1:G2 l e=(⟨l.entries++[e],l.AA⟩,0):=by simp[G2,hv,hx]
  rw[e1];simp(disch:=omega)only[go_sem,Bool.not_true];refine CU ⟨[],[],[1088,1344]⟩ _ ?_;simp(disch:=omega)only[go_sem]
  try exact .eq (by simp[Ledger.c])
end Go.Rd
