/- part 38 of the proof -/
import Derived.Test.YthachdiockkofaaGreatDoorT37
set_option linter.all false
open Go Go.Abs Go.Proofs
set_option maxRecDepth 100000
namespace Go.Rd
set_option maxHeartbeats 8000000
open List (cons_append nil_append)
open Tryz
theorem f6_ok(l:List Int)(who:Int):Ac C0 6 [Hz l,I who] [] (B true) []:=by
 refine Ac.go f6 ?_
 unfold f6
 refine gO ?_
 refine Aa (f15_ok l) ?_
 cases h1:decide ((l.length:Int)≤300)
 ·simp(disch:=omega)only[go_sem,Bool.not_false]
  refine Aa f16_ok ?_
  refine gO ?_
  exact Av _
 have hl3:l.length≤300:=by simp at h1;omega
 simp(disch:=omega)only[go_sem,Bool.not_true]
 refine Aa (f18_ok l (by omega)) ?_
 have hf:=FZ l
 have hv:AB (E9 l)=true:=TN _
 generalize E9 l=s at hf hv ⊢
 refine gO ?_
 refine Aa (f22_ok who) ?_
 generalize BZ who=p
 refine gO ?_
 refine Aa (f21_ok s p hf) ?_
 by_cases hd:p∈Bn s
 rotate_left
 ·have hds:HY s p=false:=by rw[FK hv];simpa using hd
  have hc:DA s p=([],14):=by
   have:AK (Cv s).2 p=false:=by simp only[AK,decide_eq_false_iff_not];exact hd
   simp[DA,hv,this]
  rw[hc]
  refine gO ?_
  refine Aa f16_ok ?_
  refine gO ?_
  refine Aa (f31_ok s p hf) ?_
  simp(disch:=omega)only[go_sem,hds,Bool.not_false]
  exact Av _
 obtain⟨core,hc,hnd,hpc,hdc,hmin⟩:=VB hv hf hd
 have hcl:core.length≤20000:=by
  have:=Sy hf p
  rw[hc]at this
  exact this
 rw[hc]
 have hr:Bw s core=(Ca s core,0):=by simp[Bw,hv]
 have hvr:=I9 hv core
 have hfr:=IL hf core
 have hdr:HY (Ca s core) p=true:=by rw[FK hvr];simpa using hdc
 refine gO ?_
 refine Aa (f32_ok s core hf (by omega)) ?_
 rw[hr]
 refine gO ?_
 refine Aa f16_ok ?_
 simp(disch:=omega)only[go_sem,Bool.not_true]
 refine Aa (f31_ok (Ca s core) p hfr) ?_
 simp(disch:=omega)only[go_sem,hdr,Bool.not_true]
 refine Aa (f29_ok core p (by omega)) ?_
 have hpc':AK core p=true:=by simpa [AK]using hpc
 simp(disch:=omega)only[go_sem,hpc',Bool.not_true]
 refine Ab (α:=Nat) (fun i=>⟨[(11,I i),(7,Aq core),(6,.ptr 384 0),(5,.ptr 320 0)],[(384,p.c),(320,s.c)]⟩) (fun i=>i≤core.length) (fun i=>core.length-i) 0 (by omega) (Imp.weak ?_ ?_) ?_
 ·exact gI
 ·exact gI
 rintro i hi J hJ
 simp(disch:=omega)only[go_sem,List.length_map]
 refine ⟨fun hlt=>?_,fun hge=>?_⟩
 rotate_left
 ·exact Av _
 have hlt2:i<core.length:=by simp at hlt;omega
 obtain⟨q,hq⟩:∃ q,core[i]?=some q:=⟨_,gE hlt2⟩
 refine Aj 5 [([],[7]),([],[11]),([],[71,72]),([],[73]),([],[6])] fol ?_
 simp(disch:=omega)only[go_sem,gm,hq]
 refine And.intro (fun hqp=>?_) (fun hqp=>?_)
 ·refine hJ _ (i+1) (by omega) (by omega) (Imp.weak ?_ ?_)
  ·exact gI
  ·exact gI
 have hqp:q≠p:=by simpa using hqp
 have hmn:=hmin i q hq hqp
 have hr2:Bw s (core.take i++core.drop (i+1))=(Ca s (core.take i++core.drop (i+1)),0):=by simp[Bw,hv]
 have hv2:=I9 hv (core.take i++core.drop (i+1))
 have hf2:=IL hf (core.take i++core.drop (i+1))
 have hd2:HY (Ca s (core.take i++core.drop (i+1))) p=false:=by rw[FK hv2];simpa using hmn
 have hh:=f32_ok s (core.take i++core.drop (i+1)) hf (by simp;omega)
 rw[hr2]at hh
 generalize Ca s (core.take i++core.drop (i+1))=y at hh hd2 hf2
 have ht1:(core.drop (i+1)).take (core.length-(i+1))=core.drop (i+1):=List.take_of_length_le (by simp)
 have hb1:(core.take i).length+0≤4294967296:=by simp;omega
 have hb2:(core.take i).length+(core.drop (i+1)).length≤4294967296:=by simp;omega
 refine CP (st':=⟨[(11,I i),(7,Aq core),(6,.ptr 384 0),(5,.ptr 320 0)],[(384,p.c),(320,s.c)]⟩) AE ?_
 refine CA 262143 [(0,1,0),(1,2,0),(2,4,0),(3,8,0),(4,16,12),(5,32,18),(6,64,0),(7,128,0),(8,256,128),(9,512,320),(10,1024,544),(11,2048,1025),(12,4096,2048),(13,8192,4096),(14,16384,4096),(15,32768,0),(16,65536,49151),(17,131072,131071)] [0,1,2,4,8,64,128,32768,3,5,9,65,129,32769,6,10,66,130,32770,12,68,132,32772,72,136,32776,192,32832,384,32896,7,11,67,131,32771,13,69,133,32773,73,137,32777,193,32833,385,32897,14,70,134,32774,74,138,32778,194,32834,386,32898,28,76,140,32780,196,32836,388,32900,200,32840,392,32904,448,32960,33152,15,71,135,32775,75,139,32779,195,32835,387,32899,29,77,141,32781,197,32837,389,32901,201,32841,393,32905,449,32961,33153,30,78,142,32782,198,32838,390,32902,202,32842,394,32906,450,32962,33154,92,156,32796,204,32844,396,32908,452,32964,33156,456,32968,33160,960,33216,31,79,143,32783,199,32839,391,32903,203,32843,395,32907,451,32963,33155,93,157,32797,205,32845,397,32909,453,32965,33157,457,32969,33161,961,33217,62,94,158,32798,206,32846,398,32910,454,32966,33158,458,32970,33162,962,33218,220,32860,412,32924,460,32972,33164,964,33220,968,33224,33728,63,95,159,32799,207,32847,399,32911,455,32967,33159,459,32971,33163,963,33219,221,32861,413,32925,461,32973,33165,965,33221,969,33225,33729,126,190,32830,222,32862,414,32926,462,32974,33166,966,33222,970,33226,33730,476,32988,33180,972,33228,33732,33736,127,191,32831,223,32863,415,32927,463,32975,33167,967,33223,971,33227,33731,477,32989,33181,973,33229,33733,33737,254,32894,446,32958,478,32990,33182,974,33230,33734,33738,988,33244,33740,255,32895,447,32959,479,32991,33183,975,33231,33735,33739,989,33245,33741,510,33022,33214,990,33246,33742,33756,511,33023,33215,991,33247,33743,33757,1022,33278,33758,1023,33279,33759,2046,33790,2047,33791,34814,4095,34815,8191,36863,16383,24575,40959,32767,49151,57343,65535,114687,131071,262143] (fun m=>⟨sel m [(1,78,.agg s.c),(2,79,(if m / 32%2=1 then .undef else .sl (.own 5056 0) 3 [])),(4,80,Aq core),(8,81,I i),(16,82,Aq (core.take i)),(32,83,(if m / 1024%2=1 then .undef else .sl (.own 5312 0) 3 ((core.take i).map Proc.c))),(64,84,Aq core),(128,85,I i),(256,86,I (i+1:Nat)),(512,87,Aq (core.drop (i+1))),(1024,88,(if m / 2048%2=1 then .undef else .sl (.own 5632 0) 3 ((core.take i++core.drop (i+1)).map Proc.c))),(2048,89,.tup [.agg y.c,I 0]),(4096,77,.tup [.agg y.c,I 0]),(8192,90,.agg y.c),(16384,91,I 0),(32768,12,.ptr 768 0),(131072,13,I 0)]++[(11,I i),(7,Aq core),(6,.ptr 384 0),(5,.ptr 320 0)],((if m / 32768%2=1 then [(768,(if m / 65536%2=1 then y.c else [.v (.slice none 0 0),.v (.slice none 0 0)]))] else [])++[(384,p.c),(320,s.c)])⟩) ?_ ?_ ?_ fol
 ·exact AE
 ·simp (maxSteps:=100000000)only[Cz,Cy,C9,C8,and_true,Nat.reduceDiv,Nat.reduceMod,Nat.reduceAnd,Nat.reduceEqDiff,reduceIte,true_and,and_false,false_and,and_self]
  repeat'(with_reducible refine And.intro ?_ ?_)
  all_goals simp(disch:=omega)only[go_sem,List.length_map,ht1,nil_append,cons_append]
  all_goals first|exact Imp.weak (by simp(disch:=omega)only[go_sem,nil_append,cons_append,List.map_append]) (by simp(disch:=omega)only[go_sem,nil_append,cons_append])|(refine EU [5632] hh (by simp(disch:=omega)only[go_sem]) rfl ?_;simp(disch:=omega)only[go_sem];exact Imp.weak (by simp(disch:=omega)only[go_sem,nil_append,cons_append]) (by simp(disch:=omega)only[go_sem,nil_append,cons_append]))|skip
 simp(disch:=omega)only[go_sem,nil_append,cons_append]
 refine Aa (f31_ok y p hf2) ?_
 simp(disch:=omega)only[go_sem,hd2]
 refine hJ _ (i+1) (by omega) (by omega) (Imp.weak ?_ ?_)
 ·exact gI
 ·exact gI
end Go.Rd
