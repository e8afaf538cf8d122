/- part 41 of the proof -/
import Derived.Test.YteliegkcmjimoaaGreatDoorW40
set_option linter.all false
open Go Go.Abs Go.Proofs
set_option maxRecDepth 100000
namespace Go.Rd
set_option maxHeartbeats 8000000
open List (length_append length_cons length_map length_take map_cons map_nil take_add_one take_length)
open Tryz
def W3(l:List Bs)(s:Bs):Nat:=(l.takeWhile λx=>BD x s).length
def Gt(l:List Bs)(s:Bs):List Bs:=if l[W3 l s]?=some s then l else l.take (W3 l s)++s::l.drop (W3 l s)
def bI{s:Bs}:∀ {l:List Bs} {i:Nat},i<=l.length->(l.take i).all (λx=>BD x s)=true->(∀ b,l[i]?=some b->BD b s=false)->W3 l s=i
 |[],i,hi,_,_=>by simp at hi;subst hi;rfl
 | x::l,0,_,_,h=>by grind[W3,List.takeWhile_cons]
 | x::l,i+1,hi,ha,h=>by
  rw[List.take_succ_cons,List.all_cons,Bool.and_eq_true]at ha;have ih:=bI (s:=s) (l:=l) (i:=i) (by simpa using hi) ha.2 (λb hb=>h b (by simpa using hb));unfold W3 at ih ⊢;rw[List.takeWhile_cons,ha.1];simp[ih]
def kG(l:List Bs)(s:Bs)(hl:l.length<=1000000):Ad C0 199 [MK l,.v (.string (str s))] [] (MK (Gt l s)) []:=by
 refine Ad.go f199 ?_;unfold f199;refine gO ?_;refine Ao (α:=Nat) (λi=>⟨[(5,I i),(0,MK l),(1,.v (.string (str s)))],[]⟩) (λi=>i<=l.length/\(l.take i).all (λx=>BD x s)=true) (λi=>l.length-i) 0 ⟨by omega,rfl⟩ AK ?_;rintro i ⟨hi,hP⟩ J hJ;have four:(∃ x,l[i]?=some x/\i<l.length/\Op.bytesLess x s=true)\/(l[i]?=some s/\i<l.length/\Op.bytesLess s s=false/\Gt l s=l)\/(∃ x,l[i]?=some x/\i<l.length/\Op.bytesLess x s=false/\(x==s)=false/\Gt l s=l.take i++s::l.drop i)\/(¬ i<l.length/\Gt l s=l.take i++s::l.drop i):=by
  by_cases Hf:i<l.length
  ·obtain⟨x,hx⟩:∃ x,l[i]?=some x:=⟨_,gE Hf⟩;cases hc:Op.bytesLess x s
   ·have Ug:W3 l s=i:=bI hi hP (λb hb=>by rw[hx]at hb;injection hb with hb;subst hb;exact hc)
    by_cases he:x=s
    ·subst he;exact .inr (.inl ⟨hx,Hf,hc,by simp_all[Gt]⟩)
    ·exact .inr (.inr (.inl ⟨x,hx,Hf,hc,by grind,by simp_all[Gt]⟩))
   grind
  ·have Ug:W3 l s=i:=bI hi hP (λb hb=>by grind);exact .inr (.inr (.inr ⟨Hf,by simp_all[Gt]⟩))
 rcases four with ⟨x,hx,Hf,hc⟩|⟨hx,Hf,hc,CZ⟩|⟨x,hx,Hf,hc,w8,CZ⟩|⟨Hf,CZ⟩
 ·simp(disch:=omega)only[go_sem,eq_true (show (i:Int)<(l.length:Int) by omega),hx,hc];refine hJ _ (i+1) ⟨by omega,by rw[H4 hx,hP];exact hc⟩ (by omega) AK
 ·have w8:(s==s)=true:=by simp
  simp only[go_sem,eq_true (show (i:Int)<(l.length:Int) by omega),hx,hc];refine Al _ ?_;exact .eq (by rw[CZ])
 simp(disch:=omega)only[go_sem,length_map,eq_true (show (i:Int)<(l.length:Int) by omega),decide_true,gm,hx,hc,w8];rotate_left;simp(disch:=omega)only[go_sem,length_map,eq_false (show ¬ (i:Int)<(l.length:Int) by omega),decide_false]
 all_goals
  have hm:min i l.length=i:=by omega
  have S8:List.take (l.length-i) (List.drop i l)=List.drop i l:=List.take_of_length_le (by simp);have UL:i+1<=4294967296:=by omega
  have Ss:i+1+(l.length-i)<=4294967296:=by omega
  refine F5 [(0,[],[3,8,7]),(1,[],[2,8,3,7]),(2,[1],[3,8,7]),(3,[0,2,1],[7,8]),(4,[],[6,8,7]),(5,[],[6,8,7]),(6,[4,5],[7,8]),(7,[3,6,0,2,4,5,1],[8]),(8,[7,0,1,2,3,4,5,6],[])] [0,1,2,3,4,5,6,7,8] [(0,38,ZR 2368 (l.take i),[3]),(1,39,.v (.string (str s)),[]),(2,40,.sl (.own 2560 0) 1 [[.v (.string (str s))]],[]),(3,41,.sl (.own 2624 0) 1 ((l.take i).map (λs=>[.v (.string (str s))])++[[.v (.string (str s))]]),[7]),(4,42,MK l,[]),(5,43,I i,[]),(6,44,MK (l.drop i),[]),(7,45,.sl (.own 2880 0) 1 ((l.take i).map (λs=>[.v (.string (str s))])++[[.v (.string (str s))]]++(l.drop i).map (λs=>[.v (.string (str s))])),[]),(8,4,.sl (.own 2880 0) 1 ((l.take i).map (λs=>[.v (.string (str s))])++[[.v (.string (str s))]]++(l.drop i).map (λs=>[.v (.string (str s))])),[])] (λb=>[(0,MK l),(1,.v (.string (str s))),(5,I i),(6,if b 3 then .undef else ZR 2368 (l.take i))]) (λb=>[]) ?_ (λb=>?_) (λb=>?_) B6
  ·exact AT.Aq gI gI
  ·simp only[Pf,and_true]
   repeat'(with_reducible refine And.intro ?_ ?_)
   all_goals simp(disch:=omega)only[go_sem,length_map,length_take,length_append,List.length_drop,length_cons,List.length_nil,hm,S8]
   all_goals(try first|(refine Av [] rfl (by rfl) ?_ ?_ ?_<;>(simp(disch:=omega)only[go_sem];done))|(refine Av [(_,_)] rfl (by rfl) ?_ ?_ ?_<;>(simp(disch:=omega)only[go_sem];done))|(refine Av [(_,_),(_,_)] rfl (by rfl) ?_ ?_ ?_<;>(simp(disch:=omega)only[go_sem];done))|(refine Av [(_,_),(_,_),(_,_)] rfl (by rfl) ?_ ?_ ?_<;>(simp(disch:=omega)only[go_sem];done))|(refine Bz [] rfl (by rfl) ?_ ?_ ?_<;>(simp(disch:=omega)only[go_sem];done))|(refine Bz [(_,_)] rfl (by rfl) ?_ ?_ ?_<;>(simp(disch:=omega)only[go_sem];done)))
  ·simp(disch:=omega)only[go_sem];refine CU ⟨[],[],[2880]⟩ _ (gO ?_);exact .sl (by grind)
def DT(x:Bu)(l:Ledger):List Bs:=(if x.waiting then (Ah x.Bk.expr).map (·.name) else []).foldl Gt (((x.AB.entries.drop l.entries.length).map (·.name)).foldl Gt [])
def N4(x:Bu)(l:Ledger)(label:Int):C1:=⟨x.proc,label,x.cost*((x.AB.entries.length:Int)-l.entries.length+1),(DT x l).map λn=>⟨n,An l.entries n⟩⟩
def se(l:List Bs)(s:Bs):(Gt l s).length<=l.length+1:=by grind[Gt]
theorem Mf:∀ (ns l:List Bs),(ns.foldl Gt l).length<=l.length+ns.length
 |[],l=>by simp
 | n::ns,l=>by
  have:=Mf ns (Gt l n);have:=se l n;simp only[List.foldl_cons,length_cons];omega
theorem kg(x:Bu)(l:Ledger)(label:Int)(h1:l.entries.length<=x.AB.entries.length)(h2:x.AB.entries.length<=1000)(h3:0<=x.cost/\x.cost<=1000):Ad C0 139 [.agg x.c,.agg l.c,I label] [] (.agg (N4 x l label).c) []:=by
 have ha:=Dt x.Bk.expr;obtain⟨D,hD⟩:∃ D,D=x.AB.entries.drop l.entries.length:=⟨_,rfl⟩;have hDl:D.length=x.AB.entries.length-l.entries.length:=by rw[hD];simp
 have S8:List.take (x.AB.entries.length-l.entries.length) (List.drop l.entries.length x.AB.entries)=D:=by grind
 have xn:List.take D.length (List.drop l.entries.length (List.map Entry.c x.AB.entries))=List.map Entry.c D:=by rw[<- List.map_drop,<- List.map_take,hDl,S8]
 have Uq:DT x l=(if x.waiting then (Ah x.Bk.expr).map (·.name) else []).foldl Gt ((D.map (·.name)).foldl Gt []):=by rw[hD];rfl
 obtain⟨N1,hN1⟩:∃ N,N=(D.map (·.name)).foldl Gt []:=⟨_,rfl⟩;have hl1:N1.length<=1000:=by grind[Mf]
 rw[<- hN1]at Uq;refine Ad.go f139 ?_;unfold f139;simp(disch:=omega)only[go_sem,Nat.min_self,<- hDl];refine AF (D) (λi=>⟨[(2,I label),(3,.ptr 192 0),(4,.ptr 256 0),(6,.ptr 384 0),(7,MK (((D.take i).map (·.name)).foldl Gt [])),(21,Et D),(22,I D.length),(23,I i)],[(192,x.c),(256,l.c),(384,[.v (.int .i64 0),.v (.int .i64 0),.v (.int .i64 0),.v (.int .i64 0),.v (.int .i64 0),.v (.slice none 0 0)])]⟩) (λi=>True) trivial ?_ ?_
 ·refine AT.Aq ?_ ?_
  all_goals(try simp(disch:=omega)only[go_sem])
  all_goals(try(repeat'(with_reducible apply And.intro)))
  all_goals(first|exact .Cr (by omega)|exact .A8 (by omega)|exact .sl (by grind)|exact .int (by simp[xn])|exact .eq (by simp[xn]))
 rintro i ⟨hi,hP⟩ J hJ;refine gO ?_;refine Bo hi (λAP b hb Cg AX=>?_) λBa=>?_
 simp(disch:=omega)only[go_sem,hb]
 ·have Me:=Mf ((D.take i).map (·.name)) [];have e1:((D.take (i+1)).map (·.name)).foldl Gt []=Gt (((D.take i).map (·.name)).foldl Gt []) b.name:=by grind[take_add_one]
  generalize ((D.take i).map (·.name)).foldl Gt []=M at Me e1;simp at Me;refine Ab (kG M b.name (by omega)) (gO ?_);refine hJ _ (i+1) ⟨by omega,trivial⟩ (by omega) (AT.Aq ?_ gI);rw[e1];exact gI
 subst Ba;rw[take_length,<- hN1];clear hJ;have hcb:0<=x.cost*((x.AB.entries.length:Int)-l.entries.length+1)/\x.cost*((x.AB.entries.length:Int)-l.entries.length+1)<=1001000:=by refine⟨Int.mul_nonneg h3.1 (by omega),Int.le_trans (Int.mul_le_mul h3.2 (show _<=(1001:Int) by omega) (by omega) (by omega)) (by omega)⟩
 cases hw:x.waiting
 case' true =>
  refine gO ?_;refine Ab (M7 x.Bk.expr) ?_ (hx:=by exact gI);refine gO ?_;refine AF ((Ah x.Bk.expr)) (λi=>⟨[(2,I label),(3,.ptr 192 0),(4,.ptr 256 0),(6,.ptr 384 0),(7,MK ((((Ah x.Bk.expr).take i).map (·.name)).foldl Gt N1)),(37,BG (Ah x.Bk.expr)),(38,I (Ah x.Bk.expr).length),(39,I i)],[(192,x.c),(256,l.c),(384,[.v (.int .i64 0),.v (.int .i64 0),.v (.int .i64 0),.v (.int .i64 0),.v (.int .i64 0),.v (.slice none 0 0)])]⟩) (λi=>True) trivial ?_ ?_
  ·refine AT.Aq ?_ ?_
   all_goals(try simp(disch:=omega)only[go_sem,hw])
   all_goals(try(repeat'(with_reducible apply And.intro)))
   all_goals(first|exact .Cr (by omega)|exact .A8 (by omega)|exact .sl (by grind)|exact .int (by simp[hw])|exact .eq (by simp[hw]))
  rintro i ⟨hi,hP⟩ J hJ;refine gO ?_;refine Bo hi (λAP b hb Cg AX=>?_) λBa=>?_
  simp(disch:=omega)only[go_sem,hb]
  ·have Me:=Mf (((Ah x.Bk.expr).take i).map (·.name)) N1;have e1:(((Ah x.Bk.expr).take (i+1)).map (·.name)).foldl Gt N1=Gt ((((Ah x.Bk.expr).take i).map (·.name)).foldl Gt N1) b.name:=by grind[take_add_one]
   generalize (((Ah x.Bk.expr).take i).map (·.name)).foldl Gt N1=M at Me e1;simp at Me;refine Ab (kG M b.name (by omega)) (gO ?_);refine hJ _ (i+1) ⟨by omega,trivial⟩ (by omega) (AT.Aq ?_ gI);rw[e1];exact gI
  subst Ba;rw[take_length];clear hJ;have Y4:((Ah x.Bk.expr).map (·.name)).foldl Gt N1=DT x l:=by grind
  have lK:=Mf ((Ah x.Bk.expr).map (·.name)) N1;rw[Y4]at lK ⊢;simp at lK
 case' false =>
  have Y4:N1=DT x l:=by grind
  have lK:(DT x l).length<=N1.length+(Ah x.Bk.expr).length:=by grind
  rw[Y4];refine gO ?_
 all_goals
  have pI:(DT x l).length<=1008:=by omega
  refine AF ((DT x l)) (λi=>⟨[(2,I label),(3,.ptr 192 0),(4,.ptr 256 0),(6,.ptr 384 0),(12,.ptr 768 0),(64,MK (DT x l)),(65,I (DT x l).length),(66,I i)],[(192,x.c),(256,l.c),(384,[.v (.int .i64 0),.v (.int .i64 0),.v (.int .i64 0),.v (.int .i64 0),.v (.int .i64 0),.v (.slice none 0 0)]),(768,[.v (.int .i64 x.proc.site),.v (.int .i64 x.proc.inc),.v (.int .i64 x.proc.num),I label,I (x.cost*((x.AB.entries.length:Int)-l.entries.length+1)),.sl (.own 5056 0) 3 (((DT x l).take i).map λn=>(Atom.mk n (An l.entries n)).c)])]⟩) (λi=>True) trivial ?_ ?_
  ·refine AT.Aq ?_ ?_
   all_goals(try simp(disch:=omega)only[go_sem,hw])
   all_goals(try(repeat'(with_reducible apply And.intro)))
   all_goals(first|exact .Cr (by omega)|exact .A8 (by omega)|exact .sl (by simp[hw])|exact .int (by simp[hw])|exact .eq (by simp[hw]))
  rintro i ⟨hi,hP⟩ J hJ;refine gO ?_;refine Bo hi (λAP b hb Cg AX=>?_) λBa=>?_
  simp(disch:=omega)only[go_sem,hb]
  ·have hm:min i (DT x l).length+1<=4294967296:=by omega
   have e1:(((DT x l).take (i+1)).map λn=>(Atom.mk n (An l.entries n)).c)=(((DT x l).take i).map λn=>(Atom.mk n (An l.entries n)).c)++[(Atom.mk b (An l.entries b)).c]:=by grind[take_add_one]
   obtain⟨n,rfl⟩:∃ n,n=b:=⟨b,rfl⟩;have hlm:(((DT x l).take i).map λn=>(Atom.mk n (An l.entries n)).c).length=min i (DT x l).length:=by simp
   obtain⟨M,hM⟩:∃ M,M=(((DT x l).take i).map λn=>(Atom.mk n (An l.entries n)).c):=⟨_,rfl⟩;rw[<- hM]at e1 hlm;refine F5 [(0,[],[1,10,11,9]),(1,[0],[9,10,11]),(2,[],[7,10,11,8,9]),(3,[],[4,10,11,6,7,9,8]),(4,[3],[6,10,11,7,9,8]),(5,[],[6,10,11,7,9,8]),(6,[4,5,3],[7,9,10,11,8]),(7,[2,6,4,5,3],[8,10,11,9]),(8,[7,2,6,4,5,3],[9,10,11]),(9,[1,8,6,0,7,4,5,2,3],[10,11]),(10,[0,1,2,3,4,5,6,7,8,9],[11]),(11,[10,9,0,1,2,3,4,5,6,7,8],[])] [0,1,2,3,4,5,6,7,8,9,10,11] [(0,70,.ptr 768 5,[]),(1,71,.sl (.own 5056 0) 3 M,[9]),(2,72,.v (.string (str n)),[]),(3,73,.ptr 256 0,[]),(4,74,Et l.entries,[]),(5,75,.v (.string (str n)),[]),(6,76,.agg (An l.entries n).c,[]),(7,77,.agg (Atom.mk n (An l.entries n)).c,[]),(8,78,.sl (.own 4992 0) 3 [(Atom.mk n (An l.entries n)).c],[]),(9,79,.sl (.own 5056 0) 3 (M++[(Atom.mk n (An l.entries n)).c]),[]),(10,80,.ptr 768 5,[])] (λb=>[(2,I label),(3,.ptr 192 0),(4,.ptr 256 0),(6,.ptr 384 0),(12,.ptr 768 0),(14,.v (.string (str n))),(64,MK (DT x l)),(65,I (DT x l).length),(66,I i)]) (λb=>[(192,x.c),(256,l.c),(384,[.v (.int .i64 0),.v (.int .i64 0),.v (.int .i64 0),.v (.int .i64 0),.v (.int .i64 0),.v (.slice none 0 0)]),(768,[.v (.int .i64 x.proc.site),.v (.int .i64 x.proc.inc),.v (.int .i64 x.proc.num),I label,I (x.cost*((x.AB.entries.length:Int)-l.entries.length+1)),if b 11 then .sl (.own 5056 0) 3 (M++[(Atom.mk n (An l.entries n)).c]) else if b 9 then .undef else .sl (.own 5056 0) 3 M])]) ?_ (λb=>?_) (λb=>?_) B6
   ·exact AT.Aq gI (by simp(disch:=omega)only[go_sem,hw];exact .sl (by rw[hM];rfl))
   ·simp only[Pf,and_true]
    repeat'(with_reducible refine And.intro ?_ ?_)
    all_goals simp(disch:=omega)only[go_sem,hlm]
    all_goals(try first|(refine Av [] rfl (by rfl) ?_ ?_ ?_<;>(simp(disch:=omega)only[go_sem];done))|(refine Av [(_,_)] rfl (by rfl) ?_ ?_ ?_<;>(simp(disch:=omega)only[go_sem];done))|(refine Av [(_,_),(_,_)] rfl (by rfl) ?_ ?_ ?_<;>(simp(disch:=omega)only[go_sem];done))|(refine Av [(_,_),(_,_),(_,_)] rfl (by rfl) ?_ ?_ ?_<;>(simp(disch:=omega)only[go_sem];done))|(refine Bz [] rfl (by rfl) ?_ ?_ ?_<;>(simp(disch:=omega)only[go_sem];done))|(refine Bz [(_,_)] rfl (by rfl) ?_ ?_ ?_<;>(simp(disch:=omega)only[go_sem];done)))
    refine Ab (Ib l.entries n) ?_;simp(disch:=omega)only[go_sem]
    all_goals(try first|(refine Av [] rfl (by rfl) ?_ ?_ ?_<;>(simp(disch:=omega)only[go_sem];done))|(refine Av [(_,_)] rfl (by rfl) ?_ ?_ ?_<;>(simp(disch:=omega)only[go_sem];done))|(refine Av [(_,_),(_,_)] rfl (by rfl) ?_ ?_ ?_<;>(simp(disch:=omega)only[go_sem];done))|(refine Av [(_,_),(_,_),(_,_)] rfl (by rfl) ?_ ?_ ?_<;>(simp(disch:=omega)only[go_sem];done))|(refine Bz [] rfl (by rfl) ?_ ?_ ?_<;>(simp(disch:=omega)only[go_sem];done))|(refine Bz [(_,_)] rfl (by rfl) ?_ ?_ ?_<;>(simp(disch:=omega)only[go_sem];done)))
   ·simp(disch:=omega)only[go_sem];refine hJ _ (i+1) ⟨by omega,trivial⟩ (by omega) (AT.Aq gI ?_);rw[e1];simp(disch:=omega)only[go_sem,hw]
  subst Ba;rw[take_length];clear hJ;refine CU ⟨[],[],[5056]⟩ _ ?_;refine .agg (Ae.AJ ?_);simp(disch:=omega)only[go_sem,N4];exact .sl (by rw[List.map_map];rfl)
def NV(x:Bu)(s:Save):C1:=N4 x (BQ x.AB s.label).1 s.label
def fP(x:Bu)(s:Save):Bool:=decide ((BQ x.AB s.label).2.2=0)
def KM(x:Bu):Bool:=x.proc.ok&&decide (1<=x.cost)&&decide (x.cost<=1000)&&Bx x.AB&&(!x.waiting||Hm x.Bk)
def IJ(x:Bu):List C1:=x.AB.AA.reverse.map (NV x)++[N4 x CI (-1)]
def Gn(x:Bu):List C1:=if KM x&&x.AB.AA.all (fP x)&&(IJ x).all Cc then IJ x else []
def tW(l:Ledger)(n:Int):(BQ l n).1.entries.length<=l.entries.length:=by grind[BQ,CI,PZ]
def oO{x:Bu}(h:KM x=false):Gn x=[]:=by simp[Gn,h]
def AaI(x:Bu):Ad C0 86 [.agg x.c] [] (Cw (Gn x)) []:=by
 have bad:KM x=false->∀ st',Cx C0 st' [ResultVar.tmp 2]=some [.v (.slice none 0 0)]->Xx ⟨C0,[]⟩ [ResultVar.tmp 2] (Cw (Gn x)) [] .ret st':=λh st' hr=>by
  rw[oO h];exact AY ⟨[],[],[]⟩ _ hr ⟨rfl,rfl⟩ (by simp) (.A8 (by omega)) trivial
 refine Ad.go f86 ?_;unfold f86;refine gO ?_;refine Ab (KI x.proc) ?_;cases h1:x.proc.ok
 ·refine gO ?_;exact bad (by simp[KM,h1]) _ (by simp only[go_sem,Cx,Gv])
 by_cases h2:x.cost<1
 ·refine gS ?_;exact bad (by grind[KM]) _ (by simp only[go_sem,Cx,Gv])
 by_cases h3:1000<x.cost
 ·refine gS ?_;exact bad (by grind[KM]) _ (by simp only[go_sem,Cx,Gv])
 refine gS ?_;refine Ab (M6 x.AB) ?_;cases h4:Bx x.AB
 ·refine gO ?_;exact bad (by simp[KM,h4]) _ (by simp only[go_sem,Cx,Gv])
 have hvl:x.AB.entries.length<=72/\x.AB.AA.length<=4:=by simp_all[Bx]
 cases h5:x.waiting
 case' true =>
  refine gO ?_;refine Ab (Vf x.Bk) ?_;cases h6:Hm x.Bk
  ·refine gO ?_;exact bad (by grind[KM]) _ (by simp only[go_sem,Cx,Gv])
  have hg:KM x=true:=by grind[KM]
  refine gO ?_
 case' false =>
  have hg:KM x=true:=by grind[KM]
  refine gO ?_
 all_goals
  refine Ao (α:=Nat) (λk=>⟨[(1,.ptr 64 0),(3,.sl (.own 4928 0) 6 (((x.AB.AA.reverse.take k).map λs=>(NV x s).c))),(4,I ((x.AB.AA.length:Int)-1-k))],[(64,x.c)]⟩) (λk=>k<=x.AB.AA.length/\(x.AB.AA.reverse.take k).all (fP x)=true) (λk=>x.AB.AA.length-k) 0 ⟨by omega,rfl⟩ ?_ ?_
  ·refine AT.Aq (by simp(disch:=omega)only[go_sem];exact .int (by omega)) (by simp(disch:=omega)only[go_sem,h5])
  rintro k ⟨hk,hP⟩ J hJ
  by_cases X7:k<x.AB.AA.length
  ·obtain⟨n,hn⟩:∃ n:Nat,n=x.AB.AA.length-1-k:=⟨_,rfl⟩;have Up:(x.AB.AA.length:Int)-1-k=(n:Int):=by omega
   obtain⟨s,hs⟩:∃ s,x.AB.AA[n]?=some s:=⟨_,gE (by omega)⟩;have hr:x.AB.AA.reverse[k]?=some s:=by grind
   have e1:((0:Int)<=(n:Int))=True:=eq_true (by omega);have rX:s∈x.AB.AA:=mG hs;have ID:k+1<=4294967296:=by omega
   have pJ:=tW x.AB s.label;have mr:NV x s=N4 x (BQ x.AB s.label).1 s.label:=rfl;have huo:fP x s=decide ((BQ x.AB s.label).2.2=0):=rfl;have hf:=kf x.AB s.label;have yX:((((x.AB.AA.reverse.take k).map λs=>(NV x s).c))).length=k:=by grind
   have hOW:((((x.AB.AA.reverse.take (k+1)).map λs=>(NV x s).c)))=(((x.AB.AA.reverse.take k).map λs=>(NV x s).c))++[(NV x s).c]:=by grind[take_add_one]
   obtain⟨M,hM⟩:∃ M,M=(((x.AB.AA.reverse.take k).map λs=>(NV x s).c)):=⟨_,rfl⟩;rw[<- hM]at yX hOW;generalize BQ x.AB s.label=u at pJ mr huo hf;obtain⟨u1,u2,u3⟩:=u;simp only at pJ mr huo hf;simp(disch:=omega)only[go_sem,Up,e1,decide_true];refine F5 [(0,[],[1,15,16,17,9,10,11,12,13]),(1,[0],[9,15,16,17,10,11,12,13]),(2,[],[3,15,16,17,4,6,7,8,9,10,11,12,13]),(3,[2],[4,15,16,17,6,7,8,9,10,11,12,13]),(4,[3,2],[6,15,16,17,7,8,9,10,11,12,13]),(5,[],[6,15,16,17,7,8,9,10,11,12,13]),(6,[4,5,3,2],[7,15,16,17,8,9,10,11,12,13]),(7,[6,4,5,3,2],[8,15,16,17,9,10,11,12,13]),(8,[7,6,4,5,3,2],[9,15,16,17,10,11,12,13]),(9,[1,8,0,7,6,4,5,3,2],[10,15,16,17,11,12,13]),(10,[9,1,8,0,7,6,4,5,3,2],[11,12,13,15,16,17]),(11,[10,9,1,8,0,7,6,4,5,3,2],[15,16,17]),(12,[10,9,1,8,0,7,6,4,5,3,2],[16,17]),(13,[10,9,1,8,0,7,6,4,5,3,2],[17]),(14,[],[15,16,17]),(15,[14,11,9,0,1,2,3,4,5,6,7,8,10],[16,17]),(16,[12,15,0,1,2,3,4,5,6,7,8,9,10,11,14],[17]),(17,[13,16,0,1,2,3,4,5,6,7,8,9,10,11,12,14,15],[])] [0,1,2,3,4,5,6,7,8,9,10,11,12,13,14,15,16,17] [(0,50,.ptr 64 4,[]),(1,51,.agg x.AB.c,[]),(2,52,.ptr 64 4,[]),(3,53,.ptr 64 5,[]),(4,54,NA x.AB.AA,[]),(5,55,I n,[]),(6,56,.ep .no n s.c 0,[]),(7,57,.ep .no n s.c 0,[]),(8,58,I s.label,[]),(9,59,.BC [.agg u1.c,BG u2,I u3],[]),(10,49,.BC [.agg u1.c,BG u2,I u3],[]),(11,60,.agg u1.c,[]),(12,61,BG u2,[]),(13,62,I u3,[]),(14,5,.ptr 320 0,[]),(16,6,BG u2,[]),(17,7,I u3,[])] (λb=>[(1,.ptr 64 0),(3,.sl (.own 4928 0) 6 M),(4,I n)]) (λb=>if b 14 then [(320,if b 15 then u1.c else [.v (.slice none 0 0),.v (.slice none 0 0)]),(64,x.c)] else [(64,x.c)]) ?_ (λb=>?_) (λb=>?_) B6
   ·exact AT.Aq (by simp(disch:=omega)only[go_sem];exact .sl (by rw[hM];rfl)) gI
   ·simp only[Pf,and_true];cases h14:b 14
    all_goals repeat'(with_reducible refine And.intro ?_ ?_)
    all_goals simp(disch:=omega)only[go_sem,gm,hs,h14]
    all_goals(try first|(refine Av [] rfl (by rfl) ?_ ?_ ?_<;>(simp(disch:=omega)only[go_sem];done))|(refine Av [(_,_)] rfl (by rfl) ?_ ?_ ?_<;>(simp(disch:=omega)only[go_sem];done))|(refine Av [(_,_),(_,_)] rfl (by rfl) ?_ ?_ ?_<;>(simp(disch:=omega)only[go_sem];done))|(refine Av [(_,_),(_,_),(_,_)] rfl (by rfl) ?_ ?_ ?_<;>(simp(disch:=omega)only[go_sem];done))|(refine Bz [] rfl (by rfl) ?_ ?_ ?_<;>(simp(disch:=omega)only[go_sem];done))|(refine Bz [(_,_)] rfl (by rfl) ?_ ?_ ?_<;>(simp(disch:=omega)only[go_sem];done)))
    all_goals(refine Ab hf ?_)
    all_goals simp(disch:=omega)only[go_sem]
    all_goals(try first|(refine Av [] rfl (by rfl) ?_ ?_ ?_<;>(simp(disch:=omega)only[go_sem];done))|(refine Av [(_,_)] rfl (by rfl) ?_ ?_ ?_<;>(simp(disch:=omega)only[go_sem];done))|(refine Av [(_,_),(_,_)] rfl (by rfl) ?_ ?_ ?_<;>(simp(disch:=omega)only[go_sem];done))|(refine Av [(_,_),(_,_),(_,_)] rfl (by rfl) ?_ ?_ ?_<;>(simp(disch:=omega)only[go_sem];done))|(refine Bz [] rfl (by rfl) ?_ ?_ ?_<;>(simp(disch:=omega)only[go_sem];done))|(refine Bz [(_,_)] rfl (by rfl) ?_ ?_ ?_<;>(simp(disch:=omega)only[go_sem];done)))
   by_cases hx:u3=0
   rotate_left
   ·have Vt:(u3 !=0)=true:=by grind
    have Y5:Gn x=[]:=by grind[Gn]
    simp(disch:=omega)only[go_sem,Vt];rw[Y5];refine Al _ ?_;exact .A8 (by omega)
   subst hx;refine gO ?_;refine F5 [(0,[],[12,13]),(1,[],[10,13,11,12]),(2,[],[10,13,11,12]),(3,[],[4,13,5,7,8,9,10,11,12]),(4,[3],[5,13,7,8,9,10,11,12]),(5,[4,3],[7,13,8,9,10,11,12]),(6,[],[7,13,8,9,10,11,12]),(7,[5,6,4,3],[8,13,9,10,11,12]),(8,[7,5,6,4,3],[9,13,10,11,12]),(9,[8,7,5,6,4,3],[10,13,11,12]),(10,[1,2,9,8,7,5,6,4,3],[11,12,13]),(11,[10,1,2,9,8,7,5,6,4,3],[12,13]),(12,[0,11,10,1,2,9,8,7,5,6,4,3],[13]),(13,[12,0,1,2,3,4,5,6,7,8,9,10,11],[])] [0,1,2,3,4,5,6,7,8,9,10,11,12,13] [(0,65,.sl (.own 4928 0) 6 M,[12]),(1,66,.agg x.c,[]),(2,67,.agg u1.c,[]),(3,68,.ptr 64 4,[]),(4,69,.ptr 64 5,[]),(5,70,NA x.AB.AA,[]),(6,71,I n,[]),(7,72,.ep .no n s.c 0,[]),(8,73,.ep .no n s.c 0,[]),(9,74,I s.label,[]),(10,75,.agg (N4 x u1 s.label).c,[]),(11,76,.sl (.own 4864 0) 6 [(N4 x u1 s.label).c],[]),(12,77,.sl (.own 4928 0) 6 (M++[(N4 x u1 s.label).c]),[]),(13,3,.sl (.own 4928 0) 6 (M++[(N4 x u1 s.label).c]),[])] (λb=>[(1,.ptr 64 0),(3,if b 12 then .undef else .sl (.own 4928 0) 6 M),(4,I n),(5,.ptr 320 0)]) (λb=>[(320,u1.c),(64,x.c)]) ?_ (λb=>?_) (λb=>?_) B6
   ·exact AT.Aq gI gI
   ·simp only[Pf,and_true]
    repeat'(with_reducible refine And.intro ?_ ?_)
    all_goals simp(disch:=omega)only[go_sem,gm,hs,yX]
    all_goals(try first|(refine Av [] rfl (by rfl) ?_ ?_ ?_<;>(simp(disch:=omega)only[go_sem];done))|(refine Av [(_,_)] rfl (by rfl) ?_ ?_ ?_<;>(simp(disch:=omega)only[go_sem];done))|(refine Av [(_,_),(_,_)] rfl (by rfl) ?_ ?_ ?_<;>(simp(disch:=omega)only[go_sem];done))|(refine Av [(_,_),(_,_),(_,_)] rfl (by rfl) ?_ ?_ ?_<;>(simp(disch:=omega)only[go_sem];done))|(refine Bz [] rfl (by rfl) ?_ ?_ ?_<;>(simp(disch:=omega)only[go_sem];done))|(refine Bz [(_,_)] rfl (by rfl) ?_ ?_ ?_<;>(simp(disch:=omega)only[go_sem];done)))
    refine Ab (kg x u1 s.label pJ (by omega) (by omega)) ?_;simp(disch:=omega)only[go_sem]
    all_goals(try first|(refine Av [] rfl (by rfl) ?_ ?_ ?_<;>(simp(disch:=omega)only[go_sem];done))|(refine Av [(_,_)] rfl (by rfl) ?_ ?_ ?_<;>(simp(disch:=omega)only[go_sem];done))|(refine Av [(_,_),(_,_)] rfl (by rfl) ?_ ?_ ?_<;>(simp(disch:=omega)only[go_sem];done))|(refine Av [(_,_),(_,_),(_,_)] rfl (by rfl) ?_ ?_ ?_<;>(simp(disch:=omega)only[go_sem];done))|(refine Bz [] rfl (by rfl) ?_ ?_ ?_<;>(simp(disch:=omega)only[go_sem];done))|(refine Bz [(_,_)] rfl (by rfl) ?_ ?_ ?_<;>(simp(disch:=omega)only[go_sem];done)))
   refine gO ?_;refine hJ _ (k+1) ⟨by omega,by grind[H4]⟩ (by omega) (AT.Aq ?_ gI);rw[hOW,mr];refine gO ?_;exact .int (by omega)
  have TM:k=x.AB.AA.length:=by omega
  subst TM;have htl:List.take x.AB.AA.length x.AB.AA.reverse=x.AB.AA.reverse:=by grind[List.length_reverse]
  rw[htl]at hP ⊢;rw[List.all_reverse]at hP;have e1:((0:Int)<=(x.AB.AA.length:Int)-1-(x.AB.AA.length:Int))=False:=eq_false (by omega);have ID:x.AB.AA.length+1<=4294967296:=by omega
  clear hJ;simp(disch:=omega)only[go_sem,e1,decide_false];refine Ab (kg x CI (-1) (by simp[CI]) (by omega) (by omega)) ?_ (hx:=by simp(disch:=omega)only[go_sem,CI];exact .agg (Ae.AJ ⟨.A8 (by omega),.A8 (by omega),trivial⟩));simp(disch:=omega)only[go_sem,length_map,List.length_reverse];have Ka:IJ x=x.AB.AA.reverse.map (NV x)++[N4 x CI (-1)]:=rfl;have hac:(IJ x).map C1.c=x.AB.AA.reverse.map (λs=>(NV x s).c)++[(N4 x CI (-1)).c]:=by simp_all
  have QG:(IJ x).length=x.AB.AA.length+1:=by grind
  have AhZ:Gn x=if (IJ x).all Cc then IJ x else []:=by grind[Gn]
  refine AF ((IJ x)) (λi=>⟨[(3,.sl (.own 5312 0) 6 ((IJ x).map C1.c)),(84,.sl (.own 5312 0) 6 ((IJ x).map C1.c)),(85,I (IJ x).length),(86,I i)],[(64,x.c)]⟩) (λi=>((IJ x).take i).all Cc=true) rfl ?_ ?_
  ·refine AT.Aq ?_ ?_
   all_goals(try simp(disch:=omega)only[go_sem,hac,QG])
   all_goals(try(repeat'(with_reducible apply And.intro)))
   all_goals(first|exact .Cr (by omega)|exact .A8 (by omega)|exact .sl (by simp[hac,QG])|exact .int (by simp[hac,QG])|exact .eq (by simp[hac,QG]))
  rintro i ⟨hi,hP⟩ J hJ;refine gO ?_;refine Bo hi (λAP b hb Cg AX=>?_) λBa=>?_
  simp(disch:=omega)only[go_sem,hb]
  ·refine Ab (hZ b) ?_;cases hob:Cc b
   ·have:Gn x=[]:=by grind
    rw[this];refine gO ?_;refine Al _ ?_;exact .A8 (by omega)
   ·simp(disch:=omega)only[go_sem];refine hJ _ (i+1) ⟨by omega,(by grind[H4])⟩ (by omega) AK
  subst Ba;rw[take_length]at hP;rw[AhZ,hP,if_pos rfl];refine CU ⟨[],[],[5312]⟩ _ ?_;simp(disch:=omega)only[go_sem]
def Ft(D:List Ac)(x:Bu):List C1:=D.flatMap λp=>if x.proc=p then Gn x else []
def AS(c:Hw):List C1:=c.procs.flatMap (Ft (Bl (ofM c)))
theorem Zx(x:Bu):(Gn x).length<=5:=by
 unfold Gn;split<;>simp_all[KM,Bx,IJ]
def L8{α β:Type}(f:α->List β)(n:Nat)(h:∀ a,(f a).length<=n):∀ l:List α,(l.flatMap f).length<=l.length*n
 |[]=>by simp
 | a::l=>by
  have:=L8 f n h l;have:=h a;simp only[List.flatMap_cons,length_append,length_cons,Nat.add_mul];omega
def Xi(D:List Ac)(x:Bu):(Ft D x).length<=D.length*5:=L8 _ 5 (λp=>by grind[Zx]) D
def Aau(c:Hw)(h:Ck c=true)(hp:c.procs.length<=100)(OU:Nat)(hm:OU<=100):Ad C0 39 [.agg c.c,I OU] [] (Cw ((AS c).take OU)) []:=by
 have hv:=JJ c;have hf:=AaQ h;have hd:=dc hv;refine Ad.go f39 ?_;unfold f39;refine gO ?_;refine Ab (qT c (Dx (F9 h).ve.je.tab)) (gO ?_);refine Ab (Wk (ofM c) hf) ?_;rw[DW hv];refine gO ?_;refine AF (c.procs) (λi=>⟨[(1,I OU),(2,.ptr 128 0),(5,.sl (.own 3008 0) 6 (((c.procs.take i).flatMap (Ft (Bl (ofM c)))).map C1.c)),(7,AL (Ca (ofM c)).2),(8,I i)],[(128,c.c)]⟩) (λi=>True) trivial ?_ ?_
 ·exact Ce
 rintro i ⟨hi,hP⟩ J hJ;refine gO ?_;refine Bo hi (λAP b hb Cg AX=>?_) λBa=>?_
 ·have RN:=L8 (Ft (Bl (ofM c))) 40 (λa=>Nat.le_trans (Xi _ a) (by omega)) (c.procs.take i);rw[length_take]at RN;have Me:∀ k,((Bl (ofM c)).take k).flatMap (λp=>if b.proc=p then Gn b else [])=Ft ((Bl (ofM c)).take k) b:=λ_=>rfl
  have e1:(c.procs.take (i+1)).flatMap (Ft (Bl (ofM c)))=(c.procs.take i).flatMap (Ft (Bl (ofM c)))++Ft (Bl (ofM c)) b:=by grind[take_add_one]
  generalize (c.procs.take i).flatMap (Ft (Bl (ofM c)))=A at RN e1 ⊢;obtain⟨x,rfl⟩:∃ x,x=b:=⟨b,rfl⟩;obtain⟨n,rfl⟩:∃ n,n=i:=⟨i,rfl⟩;have pB:=hJ;have hbx:=hb;clear hJ;refine AF ((Ca (ofM c)).2) (λi=>⟨[(1,I OU),(2,.ptr 128 0),(5,.sl (.own 3008 0) 6 ((A++Ft ((Ca (ofM c)).2.take i) x).map C1.c)),(7,AL (Ca (ofM c)).2),(8,I n),(9,I i)],[(128,c.c)]⟩) (λi=>True) trivial ?_ ?_
  ·have Q4:=@Ft.eq_1;exact Gd
  rintro i ⟨hi,hP⟩ J hJ;refine gO ?_;refine Bo hi (λAP b hb Cg AX=>?_) λBa=>?_
  refine Ay 10 [([],[2]),([],[29]),([],[8]),([],[30,31]),([],[32]),([],[33]),([],[7]),([],[9]),([],[35,36]),([],[37])] B6 ?_;simp(disch:=omega)only[go_sem,gm]
  ·simp only[go_sem,hbx,hb];have oa:=Xi ((Ca (ofM c)).2.take i) x;have AlR:=Zx x;rw[length_take]at oa;have ud:(Ca (ofM c)).2.length<=8:=hd;have e2:Ft ((Ca (ofM c)).2.take (i+1)) x=Ft ((Ca (ofM c)).2.take i) x++(if x.proc=b then Gn x else []):=by simp_all[Ft,take_add_one]
   generalize Ft ((Ca (ofM c)).2.take i) x=M at oa e2 ⊢;have ID:A.length+M.length+(Gn x).length<=4294967296:=by omega
   by_cases hxb:x.proc=b
   ·rw[if_pos hxb]at e2;simp only[go_sem,eq_true hxb];refine Ab (AaI x) ?_;simp(disch:=omega)only[go_sem,length_map,length_append];refine hJ _ (i+1) ⟨by omega,trivial⟩ (by omega) (AT.Aq ?_ gI);rw[e2];refine gO ?_;exact .sl (by simp)
   ·rw[if_neg hxb,List.append_nil]at e2;simp(disch:=omega)only[go_sem,eq_false hxb];refine hJ _ (i+1) ⟨by omega,trivial⟩ (by omega) (AT.Aq ?_ gI);rw[e2];exact gI
  subst Ba;rw[take_length];refine pB _ (n+1) ⟨by omega,trivial⟩ (by omega) (AT.Aq ?_ gI);rw[e1];refine gO ?_;exact .sl rfl
 subst Ba;rw[take_length];have Ka:(c.procs.flatMap (Ft (Bl (ofM c))))=AS c:=rfl;rw[Ka]
 by_cases hmo:OU<(AS c).length
 ·simp(disch:=omega)only[go_sem,eq_true (show (OU:Int)<((AS c).length:Int) by omega)];refine CU ⟨[],[],[3008]⟩ _ ?_;exact gI
 ·simp only[go_sem,eq_false (show ¬ (OU:Int)<((AS c).length:Int) by omega)];refine CU ⟨[],[],[3008]⟩ _ (gO ?_);exact .sl (by grind[List.take_of_length_le])
theorem aK(l:List Int)(hl:l.length<=10000)(OU:Nat)(hm:OU<=100):Ad C0 17 [Ju l,I OU] [] (.BC [.agg (DU l).c,Cw ((AS (Cb l)).take OU),B (decide ((Bl (DU l)).length<=4))]) []:=by
 have hc:=(Qr l).1;have hv:AI (DU l)=true:=JJ _;have hp:(Cb l).procs.length<=8:=(Lh hc).je.n;refine Ad.go f17 ?_;unfold f17;refine gO ?_;refine Ab (Aaq l hl) ?_;refine gO ?_;refine Ab (qT (Cb l) (TQ l)) ?_;have GR:ofM (Cb l)=DU l:=rfl;rw[GR];refine gO ?_;refine Ab (Wk (DU l) (MG l)) ?_;rw[DW hv];refine gO ?_;have uu:decide (((Bl (DU l)).length:Int)<=4)=decide ((Bl (DU l)).length<=4):=by grind
 refine F5 [(0,[],[7,8,9]),(1,[],[3,8,9,7]),(2,[],[3,8,9,7]),(3,[1,2],[7,8,9]),(4,[],[5,9,6]),(5,[4],[6,9]),(6,[5,4],[9]),(7,[0,3,1,2],[8,9]),(8,[3,7,0,1,2],[9]),(9,[6,8,0,1,2,3,4,5,7],[])] [0,1,2,3,4,5,6,7,8,9] [(0,20,.agg (DU l).c,[]),(1,21,.agg (Cb l).c,[]),(2,22,I OU,[]),(3,23,Cw ((AS (Cb l)).take OU),[]),(4,24,AL (Ca (DU l)).2,[]),(5,25,I (Ca (DU l)).2.length,[]),(6,26,B (decide (((Ca (DU l)).2.length:Int)<=4)),[]),(8,5,Cw ((AS (Cb l)).take OU),[]),(9,6,B (decide (((Ca (DU l)).2.length:Int)<=4)),[])] (λb=>[(1,I OU),(4,.ptr 256 0),(7,.ptr 448 0),(8,.ptr 512 0),(10,AL (Ca (DU l)).2)]) (λb=>[(256,if b 7 then (DU l).c else [.v (.slice none 0 0),.v (.slice none 0 0)]),(448,(Cb l).c),(512,(DU l).c)]) ?_ (λb=>?_) (λb=>?_) B6
 ·exact AT.Aq gI gI
 ·simp[Pf];cases h7:b 7
  all_goals repeat'(with_reducible refine And.intro ?_ ?_)
  all_goals simp(disch:=omega)only[go_sem,length_map,h7]
  all_goals(try first|(refine Av [] rfl (by rfl) ?_ ?_ ?_<;>(simp(disch:=omega)only[go_sem];done))|(refine Av [(_,_)] rfl (by rfl) ?_ ?_ ?_<;>(simp(disch:=omega)only[go_sem];done))|(refine Av [(_,_),(_,_)] rfl (by rfl) ?_ ?_ ?_<;>(simp(disch:=omega)only[go_sem];done))|(refine Av [(_,_),(_,_),(_,_)] rfl (by rfl) ?_ ?_ ?_<;>(simp(disch:=omega)only[go_sem];done))|(refine Bz [] rfl (by rfl) ?_ ?_ ?_<;>(simp(disch:=omega)only[go_sem];done))|(refine Bz [(_,_)] rfl (by rfl) ?_ ?_ ?_<;>(simp(disch:=omega)only[go_sem];done)))
  all_goals(refine Ab (Aau (Cb l) hc (by omega) OU hm) ?_)
  all_goals simp(disch:=omega)only[go_sem]
  all_goals(try first|(refine Av [] rfl (by rfl) ?_ ?_ ?_<;>(simp(disch:=omega)only[go_sem];done))|(refine Av [(_,_)] rfl (by rfl) ?_ ?_ ?_<;>(simp(disch:=omega)only[go_sem];done))|(refine Av [(_,_),(_,_)] rfl (by rfl) ?_ ?_ ?_<;>(simp(disch:=omega)only[go_sem];done))|(refine Av [(_,_),(_,_),(_,_)] rfl (by rfl) ?_ ?_ ?_<;>(simp(disch:=omega)only[go_sem];done))|(refine Bz [] rfl (by rfl) ?_ ?_ ?_<;>(simp(disch:=omega)only[go_sem];done))|(refine Bz [(_,_)] rfl (by rfl) ?_ ?_ ?_<;>(simp(disch:=omega)only[go_sem];done)))
 ·refine gO ?_;refine CT _ ?_;refine .BC (Ae.AJ ?_);refine gO ?_;exact .eq (by rw[<- uu];rfl)
def qY(name:Bs)(p q:Ac):Ad C0 64 [.v (.string (str name)),.agg p.c,.agg q.c,.ptr 63 0] [(63,wA.c)] (.agg (Mk name p q).c) [(63,wA.c)]:=by
 refine Ad.go f64 ?_;unfold f64;simp(disch:=omega)only[go_sem,wA];refine AY ⟨[],[(63,63)],[832,1088]⟩ _ (by(try simp(disch:=omega)only[go_sem,Cx,Gv])<;>rfl) ⟨rfl,rfl⟩ (by simp[lk]) ?_ ?_
 ·simp(disch:=omega)only[go_sem,Mk,wA];exact .agg (Ae.AJ (by simp(disch:=omega)only[go_sem,Mk,wA,Bg,Ct,map_cons,map_nil]))
 ·simp(disch:=omega)only[go_sem,wA]
def qZ(p:Ac)(name:Bs):Ad C0 65 [.agg p.c,.v (.string (str name)),.ptr 63 0] [(63,wA.c)] (.agg (Mp p name).c) [(63,wA.c)]:=by
 refine Ad.go f65 ?_;unfold f65;simp(disch:=omega)only[go_sem,wA];refine AY ⟨[],[(63,63)],[]⟩ _ (by(try simp(disch:=omega)only[go_sem,Cx,Gv])<;>rfl) ⟨rfl,rfl⟩ (by simp[lk]) ?_ ?_
 ·simp(disch:=omega)only[go_sem,Mp,wA];exact .agg (Ae.AJ (by simp(disch:=omega)only[go_sem,Mp,wA,Expr.k,Expr.atom,Expr.kids,map_nil]))
 ·simp(disch:=omega)only[go_sem,wA]
def zA(name:Bs):Atom:=⟨name,⟨0,0⟩⟩
def G7:List C1:=[⟨B2 0,-1,10,[zA [97],zA [98]]⟩,⟨B2 1,-1,6,[zA [97],zA [98]]⟩]
def Aap:Ad C0 28 [] [] (.BC [.agg G8.c,Cw G7]) []:=by
 refine Ad.go f28 ?_;unfold f28;simp(disch:=omega)only[go_sem];refine Ab (qU 0) ?_;simp(disch:=omega)only[go_sem];refine Ab (qU 1) ?_;simp(disch:=omega)only[go_sem];refine F5 [(0,[],[3,18,19,7,8,11,16,14,15]),(1,[],[3,18,19,7,8,11,16,14,15]),(2,[],[3,18,19,7,8,11,16,14,15]),(3,[0,1,2],[7,8,18,19,11,16,14,15]),(4,[],[7,18,19,8,11,16,14,15]),(5,[],[7,18,19,8,11,16,14,15]),(6,[],[7,18,19,8,11,16,14,15]),(7,[4,5,6,3,0,1,2],[8,11,18,19,16,14,15]),(8,[3,7,0,1,2,4,5,6],[16,18,19]),(9,[],[11,18,19,14,15,16]),(10,[],[11,18,19,14,15,16]),(11,[9,10,7,4,5,6,3,0,1,2],[14,15,18,19,16]),(12,[],[14,18,19,15,16]),(13,[],[14,18,19,15,16]),(14,[12,13,11,9,10,7,4,5,6,3,0,1,2],[15,18,19,16]),(15,[11,14,9,10,7,12,13,4,5,6,3,0,1,2],[16,18,19]),(16,[8,15,3,7,11,14,0,1,2,4,5,6,9,10,12,13],[18,19]),(17,[],[19]),(18,[16,14,0,1,2,3,4,5,6,7,8,9,10,11,12,13,15],[19]),(19,[17,18,0,1,2,3,4,5,6,7,8,9,10,11,12,13,14,15,16],[])] [0,1,2,3,4,5,6,7,8,9,10,11,12,13,14,15,16,17,18,19] [(0,24,.fn 64 [.ptr 256 0],[]),(1,25,.agg (B2 0).c,[]),(2,26,.agg (B2 1).c,[]),(3,27,.agg (Mk [97] (B2 0) (B2 1)).c,[]),(4,28,.fn 64 [.ptr 256 0],[]),(5,29,.agg (B2 1).c,[]),(6,30,.agg (B2 0).c,[]),(7,31,.agg (Mk [98] (B2 1) (B2 0)).c,[]),(8,32,.sl (.own 2048 0) 8 [(Mk [97] (B2 0) (B2 1)).c,(Mk [98] (B2 1) (B2 0)).c],[]),(9,33,.fn 65 [.ptr 256 0],[]),(10,34,.agg (B2 0).c,[]),(11,35,.agg (Mp (B2 0) [98]).c,[]),(12,36,.fn 65 [.ptr 256 0],[]),(13,37,.agg (B2 1).c,[]),(14,38,.agg (Mp (B2 1) [97]).c,[]),(15,39,.sl (.own 2496 0) 9 [(Mp (B2 0) [98]).c,(Mp (B2 1) [97]).c],[]),(16,40,.agg [.sl (.own 2048 0) 8 [(Mk [97] (B2 0) (B2 1)).c,(Mk [98] (B2 1) (B2 0)).c],.sl (.own 2496 0) 9 [(Mp (B2 0) [98]).c,(Mp (B2 1) [97]).c]],[]),(17,41,.sl (.own 1472 0) 6 (G7.map C1.c),[]),(19,1,.sl (.own 1472 0) 6 (G7.map C1.c),[])] (λb=>[(0,.ptr 0 0),(2,.ptr 128 0),(3,.ptr 192 0),(5,.fn 64 [.ptr 256 0]),(6,.fn 65 [.ptr 256 0]),(7,.sl (.own 1472 0) 6 (G7.map C1.c))]) (λb=>[(0,if b 18 then [.sl (.own 2048 0) 8 [(Mk [97] (B2 0) (B2 1)).c,(Mk [98] (B2 1) (B2 0)).c],.sl (.own 2496 0) 9 [(Mp (B2 0) [98]).c,(Mp (B2 1) [97]).c]] else [.v (.slice none 0 0),.v (.slice none 0 0)]),(128,(B2 0).c),(192,(B2 1).c),(256,wA.c)]) ?_ (λb=>?_) (λb=>?_) B6
 ·exact AT.Aq (by simp(disch:=omega)only[go_sem];exact .sl rfl) (by simp(disch:=omega)only[go_sem,wA])
 ·simp only[Pf,and_true]
  repeat'(with_reducible refine And.intro ?_ ?_)
  all_goals simp(disch:=omega)only[go_sem]
  all_goals(try first|(refine Av [] rfl (by rfl) ?_ ?_ ?_<;>(simp(disch:=omega)only[go_sem];done))|(refine Av [(_,_)] rfl (by rfl) ?_ ?_ ?_<;>(simp(disch:=omega)only[go_sem];done))|(refine Av [(_,_),(_,_)] rfl (by rfl) ?_ ?_ ?_<;>(simp(disch:=omega)only[go_sem];done))|(refine Av [(_,_),(_,_),(_,_)] rfl (by rfl) ?_ ?_ ?_<;>(simp(disch:=omega)only[go_sem];done))|(refine Bz [] rfl (by rfl) ?_ ?_ ?_<;>(simp(disch:=omega)only[go_sem];done))|(refine Bz [(_,_)] rfl (by rfl) ?_ ?_ ?_<;>(simp(disch:=omega)only[go_sem];done)))
  ·refine call2 ⟨⟨[],[(256,63)],[]⟩,[],[]⟩ (qY [97] (B2 0) (B2 1)) ?_ (hx:=by simp(disch:=omega)only[go_sem];exact .eq rfl);simp(disch:=omega)only[go_sem]
   all_goals(try first|(refine Av [] rfl (by rfl) ?_ ?_ ?_<;>(simp(disch:=omega)only[go_sem];done))|(refine Av [(_,_)] rfl (by rfl) ?_ ?_ ?_<;>(simp(disch:=omega)only[go_sem];done))|(refine Av [(_,_),(_,_)] rfl (by rfl) ?_ ?_ ?_<;>(simp(disch:=omega)only[go_sem];done))|(refine Av [(_,_),(_,_),(_,_)] rfl (by rfl) ?_ ?_ ?_<;>(simp(disch:=omega)only[go_sem];done))|(refine Bz [] rfl (by rfl) ?_ ?_ ?_<;>(simp(disch:=omega)only[go_sem];done))|(refine Bz [(_,_)] rfl (by rfl) ?_ ?_ ?_<;>(simp(disch:=omega)only[go_sem];done)))
  ·refine call2 ⟨⟨[],[(256,63)],[]⟩,[],[]⟩ (qY [98] (B2 1) (B2 0)) ?_ (hx:=by simp(disch:=omega)only[go_sem];exact .eq rfl);simp(disch:=omega)only[go_sem]
   all_goals(try first|(refine Av [] rfl (by rfl) ?_ ?_ ?_<;>(simp(disch:=omega)only[go_sem];done))|(refine Av [(_,_)] rfl (by rfl) ?_ ?_ ?_<;>(simp(disch:=omega)only[go_sem];done))|(refine Av [(_,_),(_,_)] rfl (by rfl) ?_ ?_ ?_<;>(simp(disch:=omega)only[go_sem];done))|(refine Av [(_,_),(_,_),(_,_)] rfl (by rfl) ?_ ?_ ?_<;>(simp(disch:=omega)only[go_sem];done))|(refine Bz [] rfl (by rfl) ?_ ?_ ?_<;>(simp(disch:=omega)only[go_sem];done))|(refine Bz [(_,_)] rfl (by rfl) ?_ ?_ ?_<;>(simp(disch:=omega)only[go_sem];done)))
  ·refine call2 ⟨⟨[],[(256,63)],[]⟩,[],[]⟩ (qZ (B2 0) [98]) ?_ (hx:=by simp(disch:=omega)only[go_sem];exact .eq rfl);simp(disch:=omega)only[go_sem]
   all_goals(try first|(refine Av [] rfl (by rfl) ?_ ?_ ?_<;>(simp(disch:=omega)only[go_sem];done))|(refine Av [(_,_)] rfl (by rfl) ?_ ?_ ?_<;>(simp(disch:=omega)only[go_sem];done))|(refine Av [(_,_),(_,_)] rfl (by rfl) ?_ ?_ ?_<;>(simp(disch:=omega)only[go_sem];done))|(refine Av [(_,_),(_,_),(_,_)] rfl (by rfl) ?_ ?_ ?_<;>(simp(disch:=omega)only[go_sem];done))|(refine Bz [] rfl (by rfl) ?_ ?_ ?_<;>(simp(disch:=omega)only[go_sem];done))|(refine Bz [(_,_)] rfl (by rfl) ?_ ?_ ?_<;>(simp(disch:=omega)only[go_sem];done)))
  ·refine call2 ⟨⟨[],[(256,63)],[]⟩,[],[]⟩ (qZ (B2 1) [97]) ?_ (hx:=by simp(disch:=omega)only[go_sem];exact .eq rfl);simp(disch:=omega)only[go_sem]
   all_goals(try first|(refine Av [] rfl (by rfl) ?_ ?_ ?_<;>(simp(disch:=omega)only[go_sem];done))|(refine Av [(_,_)] rfl (by rfl) ?_ ?_ ?_<;>(simp(disch:=omega)only[go_sem];done))|(refine Av [(_,_),(_,_)] rfl (by rfl) ?_ ?_ ?_<;>(simp(disch:=omega)only[go_sem];done))|(refine Av [(_,_),(_,_),(_,_)] rfl (by rfl) ?_ ?_ ?_<;>(simp(disch:=omega)only[go_sem];done))|(refine Bz [] rfl (by rfl) ?_ ?_ ?_<;>(simp(disch:=omega)only[go_sem];done))|(refine Bz [(_,_)] rfl (by rfl) ?_ ?_ ?_<;>(simp(disch:=omega)only[go_sem];done)))
 ·simp(disch:=omega)only[go_sem];refine CU ⟨[],[],[1472,2048,2496]⟩ _ ?_;refine .BC (Ae.AJ ?_);simp(disch:=omega)only[go_sem]
  first|exact .eq rfl|exact⟨.eq rfl,.rfl⟩|exact⟨.eq rfl,.eq rfl⟩
theorem qa:CD G8 G7=true:=by kernel_rfl
theorem p9:MW G8 [B2 0]=([B2 0,B2 1],0):=by kernel_rfl
theorem pZ:GU G8 G7 [0]=true:=by kernel_rfl
theorem zN:GU G8 G7 []=false:=by kernel_rfl
theorem mO:CE G8 G7=(([1],6),0):=by kernel_rfl
def GD:Ad C0 11 [] [] (B true) []:=by
 have hf:=c8.1;have hc:=gY G8 G7 hf (by decide) 2 (λ_ T hT=>MF hT) (by decide);have hs:=qL G8 [B2 0] hf (by decide);have h1:=Qy G8 G7 [0] hf (by decide) (by decide);have h2:=Qy G8 G7 [] hf (by decide) (by decide);rw[mO]at hc;rw[p9]at hs;rw[pZ]at h1;rw[zN]at h2;refine Ad.go f11 ?_;unfold f11;refine Ab Aap ?_;refine gO ?_;refine Ab hc ?_;refine gO ?_;obtain⟨o,ho,bp⟩:∃ o:C1,G7[0]?=some o/\o.proc=B2 0:=⟨_,rfl,rfl⟩;have oa:G7.length=2:=rfl;refine F5 [(0,[],[6,10,11,7,8,9]),(1,[],[2,10,11,3,4,5,6,7,8,9]),(2,[1],[3,10,11,4,5,6,7,8,9]),(3,[2,1],[4,10,11,5,6,7,8,9]),(4,[3,2,1],[5,10,11,6,7,8,9]),(5,[4,3,2,1],[6,10,11,7,8,9]),(6,[0,5,4,3,2,1],[7,10,11,8,9]),(7,[6,0,5,4,3,2,1],[8,9,10,11]),(8,[7,6,0,5,4,3,2,1],[10,11]),(9,[7,6,0,5,4,3,2,1],[11]),(10,[8,6,0,1,2,3,4,5,7],[11]),(11,[9,10,0,1,2,3,4,5,6,7,8],[])] [0,1,2,3,4,5,6,7,8,9,10,11] [(0,18,.agg G8.c,[]),(1,19,Cw G7,[]),(2,20,.ep .no 0 o.c 0,[]),(3,21,.ep .no 0 o.c 0,[]),(4,22,.agg o.proc.c,[]),(5,23,.sl (.own 1472 0) 3 [o.proc.c],[6]),(6,24,.BC [AL [B2 0,B2 1],I 0],[]),(7,17,.BC [AL [B2 0,B2 1],I 0],[]),(8,25,AL [B2 0,B2 1],[]),(9,26,I 0,[]),(10,5,AL [B2 0,B2 1],[]),(11,6,I 0,[])] (λb=>[(0,B false),(1,.ptr 64 0),(2,Cw G7),(3,.ptr 192 0),(4,I 0)]) (λb=>[(64,G8.c),(192,[.sl .no 1 [[I 1]],I 6])]) ?_ (λb=>?_) (λb=>?_) B6
 ·exact AT.Aq gI gI
 ·simp only[Pf,and_true]
  repeat'(with_reducible refine And.intro ?_ ?_)
  all_goals simp(disch:=omega)only[go_sem,gm,ho]
  all_goals(try first|(refine Av [] rfl (by rfl) ?_ ?_ ?_<;>(simp(disch:=omega)only[go_sem];done))|(refine Av [(_,_)] rfl (by rfl) ?_ ?_ ?_<;>(simp(disch:=omega)only[go_sem];done))|(refine Av [(_,_),(_,_)] rfl (by rfl) ?_ ?_ ?_<;>(simp(disch:=omega)only[go_sem];done))|(refine Av [(_,_),(_,_),(_,_)] rfl (by rfl) ?_ ?_ ?_<;>(simp(disch:=omega)only[go_sem];done))|(refine Bz [] rfl (by rfl) ?_ ?_ ?_<;>(simp(disch:=omega)only[go_sem];done))|(refine Bz [(_,_)] rfl (by rfl) ?_ ?_ ?_<;>(simp(disch:=omega)only[go_sem];done)))
  refine FU [1472] hs ?_ rfl ?_
  ·simp(disch:=omega)only[go_sem,bp,map_cons,map_nil];exact .sl rfl
  ·simp(disch:=omega)only[go_sem,selb];exact AT.Aq (by simp(disch:=omega)only[go_sem];(repeat'(with_reducible apply And.intro))<;>exact .eq rfl) gI
 ·simp(disch:=omega)only[go_sem,map_cons,map_nil,length_cons,List.length_nil];refine Ab (gX G8 G7 hf (by decide)) ?_;rw[qa];refine gO ?_;refine B4 [4096] h1 ?_ rfl trivial ?_
  ·simp(disch:=omega)only[go_sem,map_cons,map_nil];exact .sl rfl
  refine gO ?_;refine Ab h2 ?_ (hx:=by simp(disch:=omega)only[go_sem,map_nil];exact .A8 (by omega));refine gO ?_;exact AQ _
end Go.Rd
