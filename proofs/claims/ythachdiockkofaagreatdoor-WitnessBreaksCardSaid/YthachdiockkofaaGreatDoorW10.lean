/- part 10 of the proof -/
import Derived.Test.YthachdiockkofaaGreatDoorW09
set_option linter.all false
open Go Go.Abs Go.Proofs
set_option maxRecDepth 100000
namespace Go.Rd
set_option maxHeartbeats 8000000
open List (drop_length map_cons take_add_one take_length)
open Option (isSome_some)
open Nat (mul_one)
open Tryz
def Vo:List Bool:=[true,true,true,true,false,true,true,false,false,false,true,false,true,false,false,true,false,false,false,false,false,false,false,false,false]
def CH(l:List Bool):List AV:=l.map fun b=>.v (.bool b)
@[go_sem] theorem cF(S T:List Nat)(l:List Bool):Ej S T (CH l)=CH l:=by
 induction l with
 | nil=>rfl
 | cons x l ih=>simp only[CH,map_cons,Ej,AV.kill]at ih ⊢;rw[ih]
@[go_sem] theorem dA(ρ:Rn)(l:List Bool):EY ρ (CH l)=CH l:=by
 induction l with
 | nil=>rfl
 | cons x l ih=>simp only[CH,map_cons,EY,AV.ren]at ih ⊢;rw[ih]
@[go_sem] theorem dz(l:List Bool):(CH l).length=l.length:=by simp[CH]
theorem NO(l:List Bool)(k:Nat)(h:k<l.length):((CH l).drop k).take 1=[.v (.bool (l.getD k false))]:=by
 rw[List.drop_eq_getElem_cons (by simpa [CH]using h)];simp[CH,List.getD,h]
def tog:List AV:=CH Vo
noncomputable abbrev C0:Ctx:=⟨prog,fun i=>if i=0 then some tog else none⟩
@[go_sem] theorem ij(st:St):ev C0 st (.global 0)=.ep .no 0 tog 0:=rfl
def AL(n a b:Int):Bool:=decide (a≤n)&&decide (n≤b)
theorem f155_ok(n a b:Int):Ad C0 155 [I n,I a,I b] [] (B (AL n a b)) []:=by
 refine Ad.go f155 ?_;unfold f155;refine gO ?_;refine⟨fun h=>?_,fun h=>?_⟩
 ·refine Ap _ ?_;exact .eq (by simp[AL,h])
 ·refine Ap _ ?_;exact .eq (by simp[AL,h])
def Ae.ok(p:Ae):Bool:=AL p.site 0 3&&AL p.inc 1 99&&AL p.num 1 999
theorem f102_ok(p:Ae):Ad C0 102 [.agg p.c] [] (B p.ok) []:=by
 refine Ad.go f102 ?_;unfold f102;refine gO ?_;refine Ac (f155_ok p.site 0 3) ?_;refine gO ?_;refine⟨fun h=>?_,fun h=>?_⟩
 ·refine Ac (f155_ok p.inc 1 99) ?_;refine gO ?_;refine⟨fun h2=>?_,fun h2=>?_⟩
  ·refine Ac (f155_ok p.num 1 999) ?_;refine gO ?_;refine Ap _ ?_;exact .eq (by simp[Ae.ok,h,h2])
  ·refine Ap _ ?_;exact .eq (by simp[Ae.ok,h,h2])
 ·refine Ap _ ?_;exact .eq (by simp[Ae.ok,h])
def Bo(p q:Ae):Int:=if p.site<q.site then -1 else if q.site<p.site then 1 else if p.inc<q.inc then -1 else if q.inc<p.inc then 1 else if p.num<q.num then -1 else if q.num<p.num then 1 else 0
theorem f112_ok(p q:Ae):Ad C0 112 [.agg p.c,.agg q.c] [] (I (Bo p q)) []:=by
 refine Ad.go f112 ?_;unfold f112;refine gO ?_;refine Ab (α:=Nat) (fun i=>⟨[(8,I i),(7,.agg p.c),(3,.ptr 192 0)],[(192,q.c)]⟩) (fun i=>i≤3∧(1≤i→p.site=q.site)∧(2≤i→p.inc=q.inc)∧(3≤i→p.num=q.num)) (fun i=>3-i) 0 (by simp) ?_ ?_
 ·exact Imp.Am gI gI
 rintro i ⟨hi,h1,h2,h3⟩ J hJ;obtain rfl|rfl|rfl|rfl:i=0∨i=1∨i=2∨i=3:=by omega
 ·simp(disch:=omega)only[go_sem];refine⟨fun h=>?_,fun h=>⟨fun h'=>?_,fun h'=>?_⟩⟩
  ·refine Ap _ ?_;exact .eq (by simp at h;simp[Bo,h])
  ·refine Ap _ ?_;exact .eq (by simp at h h';simp[Bo,h'];omega)
  ·refine hJ _ 1 ⟨by omega,fun _=>by simp at h h';omega,by omega,by omega⟩ (by omega) AR
 ·simp(disch:=omega)only[go_sem];refine⟨fun h=>?_,fun h=>⟨fun h'=>?_,fun h'=>?_⟩⟩
  ·refine Ap _ ?_;exact .eq (by simp at h;simp[Bo,h,h1])
  ·refine Ap _ ?_;exact .eq (by simp at h h';simp[Bo,h',h1];omega)
  ·refine hJ _ 2 ⟨by omega,fun _=>h1 (by omega),fun _=>by simp at h h';omega,by omega⟩ (by omega) AR
 ·simp(disch:=omega)only[go_sem];refine⟨fun h=>?_,fun h=>⟨fun h'=>?_,fun h'=>?_⟩⟩
  ·refine Ap _ ?_;exact .eq (by simp at h;simp[Bo,h,h1,h2])
  ·refine Ap _ ?_;exact .eq (by simp at h h';simp[Bo,h',h1,h2];omega)
  ·refine hJ _ 3 ⟨by omega,fun _=>h1 (by omega),fun _=>h2 (by omega),fun _=>by simp at h h';omega⟩ (by omega) AR
 ·simp(disch:=omega)only[go_sem];refine Ap _ ?_;exact .eq (by simp[Bo,h1,h2,h3])
theorem f61_ok(p q:Ae):Ad C0 61 [.agg p.c,.agg q.c] [] (I (Bo p q)) []:=by
 refine Ad.go f61 ?_;unfold f61;refine gO ?_;refine Ac (f112_ok p q) ?_;refine gO ?_;exact AE _
def KU(g:Int):Int:=if g<0∨1073741824≤g then 1 else g+1
theorem f263_ok(g:Int):Ad C0 263 [I g] [] (I (KU g)) []:=by
 refine Ad.go f263 ?_;unfold f263;simp(disch:=omega)only[go_sem]
 repeat'(with_reducible refine And.intro (fun h=>?_) (fun h=>?_))
 all_goals(refine B8 _ ?_)
 all_goals(try simp(disch:=omega)only[go_sem])
 all_goals(refine .eq ?_)
 all_goals(first|(simp_all[KU,IntKind.wrap,IntKind.signed,IntKind.bits]<;>omega)|(refine Bool.eq_iff_iff.2 ?_;simp_all[KU,IntKind.wrap,IntKind.signed,IntKind.bits]<;>omega))
def Amt.zero(a:Amt):Bool:=a.mode==0&&a.AA==0
theorem f264_ok(a:Amt):Ad C0 264 [.agg a.c] [] (B a.zero) []:=by
 refine Ad.go f264 ?_;unfold f264;simp(disch:=omega)only[go_sem]
 repeat'(with_reducible refine And.intro (fun h=>?_) (fun h=>?_))
 all_goals(refine B8 _ ?_)
 all_goals(try simp(disch:=omega)only[go_sem])
 all_goals(refine .eq ?_)
 all_goals(first|(simp_all[Amt.zero]<;>omega)|(refine Bool.eq_iff_iff.2 ?_;simp_all[Amt.zero]<;>omega))
def Res.shaped(r:Res):Bool:=if r.kind=1 then r.AA==1 else if r.kind=2 then AL r.AA 1 8 else false
theorem f306_ok(r:Res):Ad C0 306 [.agg r.c] [] (B r.shaped) []:=by
 refine Ad.go f306 ?_;unfold f306;simp(disch:=omega)only[go_sem]
 repeat'(with_reducible refine And.intro (fun h=>?_) (fun h=>?_))
 all_goals(refine B8 _ ?_)
 all_goals(try simp(disch:=omega)only[go_sem])
 all_goals(refine .eq ?_)
 all_goals(first|(simp_all[Res.shaped,AL]<;>omega)|(refine Bool.eq_iff_iff.2 ?_;simp_all[Res.shaped,AL]<;>omega))
def Bf(m:Int):Bool:=AL m 1 5
theorem f314_ok(m:Int):Ad C0 314 [I m] [] (B (Bf m)) []:=by
 refine Ad.go f314 ?_;unfold f314;simp(disch:=omega)only[go_sem]
 repeat'(with_reducible refine And.intro (fun h=>?_) (fun h=>?_))
 all_goals(refine B8 _ ?_)
 all_goals(try simp(disch:=omega)only[go_sem])
 all_goals(refine .eq ?_)
 all_goals(first|(simp_all[Bf,AL]<;>omega)|(refine Bool.eq_iff_iff.2 ?_;simp_all[Bf,AL]<;>omega))
def Res.fits(r:Res)(a:Amt):Bool:=r.shaped&&(if r.kind=1 then Bf a.mode&&a.AA==0 else a.mode==0&&AL a.AA 1 r.AA)
theorem f281_ok(r:Res)(a:Amt):Ad C0 281 [.agg r.c,.agg a.c] [] (B (r.fits a)) []:=by
 refine Ad.go f281 ?_;unfold f281;simp(disch:=omega)only[go_sem]
 repeat'(first
  |(with_reducible refine And.intro (fun h=>?_) (fun h=>?_))
  |((with_reducible show AY _ _ 306 _ _ _);refine Ai (f306_ok r) ?_ rfl ?_;(focus(simp(disch:=omega)only[go_sem];done));try simp(disch:=omega)only[go_sem])
  |((with_reducible show AY _ _ 314 _ _ _);refine Ai (f314_ok a.mode) ?_ rfl ?_;(focus(simp(disch:=omega)only[go_sem];done));try simp(disch:=omega)only[go_sem]))
 all_goals(refine B8 _ ?_)
 all_goals(try simp(disch:=omega)only[go_sem])
 all_goals(refine .eq ?_)
 all_goals(first|(simp_all[Res.fits,AL]<;>omega)|(refine Bool.eq_iff_iff.2 ?_;simp_all[Res.fits,AL]<;>omega))
def Res.permits(r:Res)(a:Amt):Bool:=r.shaped&&(a.zero||r.fits a)
theorem f307_ok(r:Res)(a:Amt):Ad C0 307 [.agg r.c,.agg a.c] [] (B (r.permits a)) []:=by
 refine Ad.go f307 ?_;unfold f307;simp(disch:=omega)only[go_sem]
 repeat'(first
  |(with_reducible refine And.intro (fun h=>?_) (fun h=>?_))
  |((with_reducible show AY _ _ 306 _ _ _);refine Ai (f306_ok r) ?_ rfl ?_;(focus(simp(disch:=omega)only[go_sem];done));try simp(disch:=omega)only[go_sem])
  |((with_reducible show AY _ _ 264 _ _ _);refine Ai (f264_ok a) ?_ rfl ?_;(focus(simp(disch:=omega)only[go_sem];done));try simp(disch:=omega)only[go_sem])
  |((with_reducible show AY _ _ 281 _ _ _);refine Ai (f281_ok r a) ?_ rfl ?_;(focus(simp(disch:=omega)only[go_sem];done));try simp(disch:=omega)only[go_sem]))
 all_goals(refine B8 _ ?_)
 all_goals(try simp(disch:=omega)only[go_sem])
 all_goals(refine .eq ?_)
 all_goals(first|(simp_all[Res.permits]<;>omega)|(refine Bool.eq_iff_iff.2 ?_;simp_all[Res.permits]<;>omega))
def cov(m:Int):List Bool:=if m=5 then [false,true,true,true,true,true] else if m=4 then [false,true,true,true,true,false] else if m=2 then [false,true,true,false,false,false] else if m=1 then [false,true,false,false,false,false] else if m=3 then [false,true,false,true,false,false] else [false,false,false,false,false,false]
theorem f325_ok(m:Int):Ad C0 325 [I m] [] (.agg (CH (cov m))) []:=by
 refine Ad.go f325 ?_;unfold f325;simp(disch:=omega)only[go_sem]
 repeat'(first
  |(with_reducible refine And.intro (fun h=>?_) (fun h=>?_))
)
 all_goals(refine B8 _ ?_)
 all_goals(try simp(disch:=omega)only[go_sem])
 all_goals(refine .eq ?_)
 all_goals(first|(simp_all[cov,CH]<;>omega)|(refine Bool.eq_iff_iff.2 ?_;simp_all[cov,CH]<;>omega))
def Bd(a b:Int):Bool:=Bf a&&Bf b&&(cov a).getD b.toNat false
theorem AT{m:Int}(h:Bf m=true):m=1∨m=2∨m=3∨m=4∨m=5:=by
 simp[Bf,AL]at h;omega
theorem aN(m:Int):(cov m).length=6:=by
 unfold cov
 repeat' split
 all_goals rfl
theorem f322_ok(a b:Int):Ad C0 322 [I a,I b] [] (B (Bd a b)) []:=by
 refine Ad.go f322 ?_;unfold f322;refine gO ?_;refine Ac (f314_ok a) ?_;refine gO ?_;refine⟨fun h=>?_,fun h=>?_⟩
 ·refine Ac (f314_ok b) ?_;refine gO ?_;refine And.intro (fun h'=>?_) (fun h'=>?_)
  ·have h1:=AT h';have hb:(b<6)=True:=by simp;omega
   have hb0:(0≤b)=True:=by simp;omega
   have hl:=aN a;refine Ai (y':=.agg (CH (cov a))) (f325_ok a) gI gI ?_;simp(disch:=omega)only[go_sem,hl,NO,hb,hb0,mul_one];refine Ap _ ?_;exact .eq (by simp[Bd,h,h'])
  ·refine Ap _ ?_;exact .eq (by simp[Bd,h,h'])
 ·refine Ap _ ?_;exact .eq (by simp[Bd,h])
def BF(a b:Int):Bool:=Bf a&&Bf b&&Vo.getD ((a-1)*5+(b-1)).toNat false
theorem f308_ok(a b:Int):Ad C0 308 [I a,I b] [] (B (BF a b)) []:=by
 refine Ad.go f308 ?_;unfold f308;refine gO ?_;refine Ac (f314_ok a) ?_;refine gO ?_;refine⟨fun h=>?_,fun h=>?_⟩
 ·refine Ac (f314_ok b) ?_;refine gO ?_;refine And.intro (fun h'=>?_) (fun h'=>?_)
  ·have h1:=AT h;have h2:=AT h';have ha:(a-1<5)=True:=by simp;omega
   have ha0:(0≤a-1)=True:=by simp;omega
   have hb:(b-1<5)=True:=by simp;omega
   have hb0:(0≤b-1)=True:=by simp;omega
   have hl:Vo.length=25:=rfl;have hk:((a-1)*5+(b-1)).toNat=0+(a-1).toNat*5+(b-1).toNat*1:=by omega
   simp(disch:=omega)only[go_sem,tog,hl,NO,ha,ha0,hb,hb0,mul_one];refine Ap _ ?_;exact .eq (by simp[BF,h,h',hk])
  ·refine Ap _ ?_;exact .eq (by simp[BF,h,h'])
 ·refine Ap _ ?_;exact .eq (by simp[BF,h])
def Res.covers(r:Res)(a b:Amt):Bool:=r.permits a&&r.permits b&&(if a.zero||b.zero then b.zero else if r.kind=1 then Bd a.mode b.mode else decide (b.AA≤a.AA))
theorem f311_ok(r:Res)(a b:Amt):Ad C0 311 [.agg r.c,.agg a.c,.agg b.c] [] (B (r.covers a b)) []:=by
 refine Ad.go f311 ?_;unfold f311;simp(disch:=omega)only[go_sem]
 repeat'(first
  |(with_reducible refine And.intro (fun h=>?_) (fun h=>?_))
  |((with_reducible show AY _ _ 307 _ _ _);refine Ai (f307_ok r a) ?_ rfl ?_;(focus(simp(disch:=omega)only[go_sem];done));try simp(disch:=omega)only[go_sem])
  |((with_reducible show AY _ _ 307 _ _ _);refine Ai (f307_ok r b) ?_ rfl ?_;(focus(simp(disch:=omega)only[go_sem];done));try simp(disch:=omega)only[go_sem])
  |((with_reducible show AY _ _ 264 _ _ _);refine Ai (f264_ok a) ?_ rfl ?_;(focus(simp(disch:=omega)only[go_sem];done));try simp(disch:=omega)only[go_sem])
  |((with_reducible show AY _ _ 264 _ _ _);refine Ai (f264_ok b) ?_ rfl ?_;(focus(simp(disch:=omega)only[go_sem];done));try simp(disch:=omega)only[go_sem])
  |((with_reducible show AY _ _ 322 _ _ _);refine Ai (f322_ok a.mode b.mode) ?_ rfl ?_;(focus(simp(disch:=omega)only[go_sem];done));try simp(disch:=omega)only[go_sem]))
 all_goals(refine B8 _ ?_)
 all_goals(try simp(disch:=omega)only[go_sem])
 all_goals(refine .eq ?_)
 all_goals(first|(simp_all[Res.covers]<;>omega)|(refine Bool.eq_iff_iff.2 ?_;simp_all[Res.covers]<;>omega))
@[go_sem] theorem gQ(p q:Ae):(p.site==q.site&&(p.inc==q.inc&&p.num==q.num))=decide (p=q):=by
 cases p;cases q;refine Bool.eq_iff_iff.2 ?_;simp
@[go_sem] theorem gY(p q:Amt):(p.mode==q.mode&&p.AA==q.AA)=decide (p=q):=by
 cases p;cases q;refine Bool.eq_iff_iff.2 ?_;simp
def AB(l:List AO)(p:Ae):Amt:=match l.find? (fun h=>decide (h.proc=p)) with
 |some h=>h.amt
 |none=>⟨0,0⟩
theorem BS{α:Type}{f:α→Bool}{l:List α}{i:Nat}{b:α}(h:(l.take i).find? f=none)(hb:l[i]?=some b):(l.take (i+1)).find? f=if f b then some b else none:=by
 rw[take_add_one,hb,List.find?_append,h];simp[List.find?]
theorem GI{α:Type}{f:α→Bool}{l:List α}{i:Nat}{b:α}(h:(l.take i).find? f=none)(hb:l[i]?=some b)(hf:f b=true):l.find? f=some b:=by
 have h1:=BS h hb;rw[hf]at h1
 conv=>lhs;rw[← List.take_append_drop (i+1) l]
 rw[List.find?_append,h1];rfl
theorem f321_ok(l:List AO)(p:Ae)(hl:l.length≤1000000):Ad C0 321 [AH l,.agg p.c] [] (.agg (AB l p).c) []:=by
 refine Ad.go f321 ?_;unfold f321;refine gO ?_;refine Ab (α:=Nat) (fun i=>⟨[(9,I i),(8,I l.length),(7,AH l),(3,.ptr 192 0),(4,.ptr 256 0)],[(192,p.c),(256,(⟨0,0⟩:Amt).c)]⟩) (fun i=>i≤(l).length∧(l.take i).find? (fun h=>decide (h.proc=p))=none) (fun i=>(l).length-i) 0 ⟨by omega,rfl⟩ ?_ ?_
 ·exact BB
 rintro i ⟨hi,hP⟩ J hJ;refine gO ?_;refine ⟨fun hlt=>?_,fun hge=>?_⟩;rotate_left;have hil:i=(l).length:=by simp at hge;omega
 rotate_left;obtain⟨b,hb⟩:∃ b,(l)[i]?=some b:=⟨_,gE (by simp at hlt;omega)⟩;have hbm:=mG hb;simp(disch:=omega)only[go_sem,gm,hb]
 ·refine⟨fun h=>?_,fun h=>?_⟩
  ·have e:AB l p=b.amt:=by unfold AB;rw[GI hP hb (by simpa using h)]
   simp(disch:=omega)only[go_sem,e];exact AE _
  ·refine hJ _ (i+1) ⟨by simp at hlt;omega,(by rw[BS hP hb];simp at h;simp[h])⟩ (by simp at hlt;omega) AR
 ·subst hil;rw[take_length]at hP;have e:AB l p=⟨0,0⟩:=by unfold AB;rw[hP]
  simp(disch:=omega)only[go_sem,e];exact AE _
def CY(l:List AO):List Ae:=l.map (·.proc)
theorem f309_ok(q:Queue)(p:Ae)(hl:q.holds.length≤1000000):Ad C0 309 [.agg q.c,.agg p.c] [] (.agg (AB q.holds p).c) []:=by
 refine Ad.go f309 ?_;unfold f309;refine gO ?_;refine Ac (f321_ok q.holds p hl) ?_;refine gO ?_;exact AE _
def E3(l:List AS)(p:Ae):Int:=match l.findIdx? (fun h=>decide (h.proc=p)) with
 |some i=>i
 |none=>-1
theorem FA{α:Type}{f:α→Bool}{l:List α}{i:Nat}(h:(l.take i).find? f=none):∀ b,l[i]?=some b→f b=true→l.findIdx? f=some i:=by
 intro b hb hf;rw[List.findIdx?_eq_some_iff_getElem];have hi:i<l.length:=by
  rcases Nat.lt_or_ge i l.length with h|h
  ·exact h
  ·rw[List.getElem?_eq_none h]at hb;cases hb
 refine⟨hi,?_,fun j hj=>?_⟩
 ·rw[gE hi]at hb;injection hb with hb
  rw[hb];exact hf
 ·rw[List.find?_eq_none]at h;have:=h (l[j]) (by
   rw[List.mem_take_iff_getElem];exact⟨j,by omega,rfl⟩)
  simpa using this
theorem f310_ok(l:List AS)(p:Ae)(hl:l.length≤1000000):Ad C0 310 [A7 l,.agg p.c] [] (I (E3 l p)) []:=by
 refine Ad.go f310 ?_;unfold f310;refine gO ?_;refine Ab (α:=Nat) (fun i=>⟨[(9,I i),(8,I l.length),(7,A7 l),(3,.ptr 192 0)],[(192,p.c)]⟩) (fun i=>i≤(l).length∧(l.take i).find? (fun h=>decide (h.proc=p))=none) (fun i=>(l).length-i) 0 ⟨by omega,rfl⟩ ?_ ?_
 ·exact BB
 rintro i ⟨hi,hP⟩ J hJ;refine gO ?_;refine ⟨fun hlt=>?_,fun hge=>?_⟩;rotate_left;have hil:i=(l).length:=by simp at hge;omega
 rotate_left;obtain⟨b,hb⟩:∃ b,(l)[i]?=some b:=⟨_,gE (by simp at hlt;omega)⟩;have hbm:=mG hb;simp(disch:=omega)only[go_sem,gm,hb]
 ·refine⟨fun h=>?_,fun h=>?_⟩
  ·have e:E3 l p=i:=by unfold E3;rw[FA hP b hb (by simpa using h)]
   simp(disch:=omega)only[go_sem,e];exact AE _
  ·refine hJ _ (i+1) ⟨by simp at hlt;omega,(by rw[BS hP hb];simp at h;simp[h])⟩ (by simp at hlt;omega) AR
 ·subst hil;rw[take_length]at hP;have e:E3 l p = -1:=by
   unfold E3;have:l.findIdx? (fun h=>decide (h.proc=p))=none:=by
    rw[List.findIdx?_eq_none_iff];rw[List.find?_eq_none]at hP;intro x hx;simpa using hP x hx
   rw[this]
  simp(disch:=omega)only[go_sem,e];exact AE _
def reserved(s:Bs):Bool:=s==[97,108,108]||s==[97,110,121]||s==[111,102]||s==[112,114,105,111]||s==[108,105,109,105,116]
theorem f313_ok(s:Bs):Ad C0 313 [.v (.string (str s))] [] (B (reserved s)) []:=by
 refine Ad.go f313 ?_;unfold f313;simp(disch:=omega)only[go_sem]
 repeat'(first
  |(with_reducible refine And.intro (fun h=>?_) (fun h=>?_))
)
 all_goals(refine B8 _ ?_)
 all_goals(try simp(disch:=omega)only[go_sem])
 all_goals(refine .eq ?_)
 all_goals(first|(simp_all[reserved]<;>omega)|(refine Bool.eq_iff_iff.2 ?_;simp_all[reserved]<;>omega))
@[go_sem] theorem gv(l:Bs)(i:Nat):(str l)[i]?=l[i]?:=by
 show (ByteArray.mk l.toArray)[i]?=l[i]?
 by_cases h:i<l.length
 ·have h1:i<(ByteArray.mk l.toArray).size:=h;rw[getElem?_pos _ i h1,getElem?_pos _ i h];rfl
 ·have h1:¬ i<(ByteArray.mk l.toArray).size:=h;rw[getElem?_neg _ i h1,getElem?_neg _ i h]
def letter(c:UInt8):Bool:=decide (97≤(c.toNat:Int))&&decide ((c.toNat:Int)≤122)
def other(c:UInt8):Bool:=decide (48≤(c.toNat:Int))&&decide ((c.toNat:Int)≤57)||(c.toNat:Int)==95||(c.toNat:Int)==45
def okc(i:Nat)(c:UInt8):Bool:=letter c||(!decide (i=0)&&other c)
def B2{α:Type}(f:Nat→α→Bool)(l:List α):Bool:=l.zipIdx.all fun x=>f x.2 x.1
theorem B7{α:Type}{f:Nat→α→Bool}{l:List α}{i:Nat}{b:α}(hb:l[i]?=some b):B2 f (l.take (i+1))=(B2 f (l.take i)&&f i b):=by
 have hi:i<l.length:=by
  rcases Nat.lt_or_ge i l.length with h|h
  ·exact h
  ·rw[List.getElem?_eq_none h]at hb;cases hb
 simp only[B2,take_add_one,hb,Option.toList_some,List.zipIdx_append,List.all_append,List.length_take];simp[Nat.min_eq_left (Nat.le_of_lt hi)]
theorem Bx{α:Type}{f:Nat→α→Bool}{l:List α}{i:Nat}{b:α}(hb:l[i]?=some b)(h:f i b=false):B2 f l=false:=by
 unfold B2;rw[List.all_eq_false];refine⟨(b,i),?_,by simp[h]⟩;rw[List.mk_mem_zipIdx_iff_getElem?];exact hb
def Dd(s:Bs):Bool:=decide (1≤s.length)&&decide (s.length≤12)&&!reserved s&&B2 okc s
theorem f280_ok(s:Bs):Ad C0 280 [.v (.string (str s))] [] (B (Dd s)) []:=by
 refine Ad.go f280 ?_;unfold f280
 by_cases h1:s.length<1
 ·have e1:((s.length:Int)<1)=True:=by simp;omega
  simp(disch:=omega)only[go_sem,e1];refine Ap _ ?_;exact .eq (by simp[Dd];omega)
 by_cases h2:12<s.length
 ·have e1:((s.length:Int)<1)=False:=by simp;omega
  have e2:(12<(s.length:Int))=True:=by simp;omega
  simp(disch:=omega)only[go_sem,e1,e2,decide_false];refine Ap _ ?_;exact .eq (by simp[Dd];omega)
 have e1:((s.length:Int)<1)=False:=by simp;omega
 have e2:(12<(s.length:Int))=False:=by simp;omega
 simp(disch:=omega)only[go_sem,e1,e2,decide_false];refine Ac (f313_ok s) ?_;refine gO ?_;refine⟨fun h=>?_,fun h=>?_⟩
 ·refine Ap _ ?_;exact .eq (by simp[Dd,h])
 refine Ab (α:=Nat) (fun i=>⟨[(21,I i),(20,I s.length),(0,.v (.string (str s)))],[]⟩) (fun i=>i≤(s).length∧B2 okc (s.take i)=true) (fun i=>(s).length-i) 0 ⟨by omega,rfl⟩ ?_ ?_
 ·exact BB
 rintro i ⟨hi,hP⟩ J hJ;refine gO ?_;refine ⟨fun hlt=>?_,fun hge=>?_⟩;rotate_left;have hil:i=(s).length:=by simp at hge;omega
 rotate_left;obtain⟨b,hb⟩:∃ b,(s)[i]?=some b:=⟨_,gE (by simp at hlt;omega)⟩;have hbm:=mG hb;simp(disch:=omega)only[go_sem,gm,hb]
 ·repeat'(with_reducible refine And.intro (fun h=>?_) (fun h=>?_))
  all_goals(first
   | refine hJ _ (i+1) ⟨by simp at hlt;omega,by rw[B7 hb,hP];simp_all[okc,letter,other]⟩ (by simp at hlt;omega) AR
   |(have hz:okc i b=false:=by(simp_all[okc,letter,other]<;>omega)
     have e:Dd s=false:=by simp[Dd,Bx hb hz]
     refine Bc ⟨[],[],[]⟩ _ rfl ⟨rfl,rfl⟩ (by simp) ?_ trivial;simp(disch:=omega)only[go_sem,e]))
 ·subst hil;rw[take_length]at hP;have e:Dd s=true:=by simp[Dd,hP,h];omega
  simp(disch:=omega)only[go_sem,e];exact AE _
theorem f276_ok(r:Res):Ad C0 276 [.agg r.c] [] (B (Dd r.name&&r.shaped&&AL r.home 0 3)) []:=by
 refine Ad.go f276 ?_;unfold f276;simp(disch:=omega)only[go_sem]
 repeat'(first
  |(with_reducible refine And.intro (fun h=>?_) (fun h=>?_))
  |((with_reducible show AY _ _ 280 _ _ _);refine Ai (f280_ok r.name) ?_ rfl ?_;(focus(simp(disch:=omega)only[go_sem];done));try simp(disch:=omega)only[go_sem])
  |((with_reducible show AY _ _ 306 _ _ _);refine Ai (f306_ok r) ?_ rfl ?_;(focus(simp(disch:=omega)only[go_sem];done));try simp(disch:=omega)only[go_sem]))
 all_goals(refine B8 _ ?_)
 all_goals(try simp(disch:=omega)only[go_sem])
 all_goals(refine .eq ?_)
 all_goals(first|(simp_all[AL]<;>omega)|(refine Bool.eq_iff_iff.2 ?_;simp_all[AL]<;>omega))
def GX:Res:=⟨[],1,1,0⟩
def G0:Res:=⟨[],2,8,0⟩
def AS.ok(w:AS):Bool:=w.proc.ok&&(GX.fits w.amt||G0.fits w.amt)&&AL w.prio 0 7&&AL w.Df 0 3
theorem f323_ok(w:AS):Ad C0 323 [.agg w.c] [] (B w.ok) []:=by
 refine Ad.go f323 ?_;unfold f323;simp(disch:=omega)only[go_sem]
 repeat'(first
  |(with_reducible refine And.intro (fun h=>?_) (fun h=>?_))
  |((with_reducible show AY _ _ 102 _ _ _);refine Ai (f102_ok w.proc) ?_ rfl ?_;(focus(simp(disch:=omega)only[go_sem];done));try simp(disch:=omega)only[go_sem])
  |((with_reducible show AY _ _ 281 _ _ _);refine Ai (f281_ok ⟨[],1,1,0⟩ w.amt) ?_ rfl ?_;(focus(simp(disch:=omega)only[go_sem];done));try simp(disch:=omega)only[go_sem])
  |((with_reducible show AY _ _ 281 _ _ _);refine Ai (f281_ok ⟨[],2,8,0⟩ w.amt) ?_ rfl ?_;(focus(simp(disch:=omega)only[go_sem];done));try simp(disch:=omega)only[go_sem]))
 all_goals(refine B8 _ ?_)
 all_goals(try simp(disch:=omega)only[go_sem])
 all_goals(refine .eq ?_)
 all_goals(first|(simp_all[AS.ok,AL,GX,G0]<;>omega)|(refine Bool.eq_iff_iff.2 ?_;simp_all[AS.ok,AL,GX,G0]<;>omega))
def ET(l:List AS)(i:Nat)(w:AS):Bool:=w.ok&&decide (E3 l w.proc=(i:Int))
def Dm(l:List AS):Bool:=decide (l.length≤8)&&B2 (ET l) l
theorem f312_ok(l:List AS):Ad C0 312 [A7 l] [] (B (Dm l)) []:=by
 refine Ad.go f312 ?_;unfold f312
 by_cases h1:8<l.length
 ·have e1:(8<(l.length:Int))=True:=by simp;omega
  simp(disch:=omega)only[go_sem,e1];refine Ap _ ?_;exact .eq (by simp[Dm];omega)
 have e1:(8<(l.length:Int))=False:=by simp;omega
 simp(disch:=omega)only[go_sem,e1,decide_false];refine Ab (α:=Nat) (fun i=>⟨[(10,I i),(9,I l.length),(8,A7 l),(0,A7 l)],[]⟩) (fun i=>i≤(l).length∧B2 (ET l) (l.take i)=true) (fun i=>(l).length-i) 0 ⟨by omega,rfl⟩ ?_ ?_
 ·exact BB
 rintro i ⟨hi,hP⟩ J hJ;refine gO ?_;refine ⟨fun hlt=>?_,fun hge=>?_⟩;rotate_left;have hil:i=(l).length:=by simp at hge;omega
 rotate_left;obtain⟨b,hb⟩:∃ b,(l)[i]?=some b:=⟨_,gE (by simp at hlt;omega)⟩;have hbm:=mG hb;simp(disch:=omega)only[go_sem,gm,hb]
 ·refine Ac (f323_ok b) ?_;cases hw:b.ok
  ·have e:Dm l=false:=by simp[Dm,Bx hb (show ET l i b=false by simp[ET,hw])]
   simp(disch:=omega)only[go_sem,Bool.not_false,e];exact AE _
  simp(disch:=omega)only[go_sem,Bool.not_true];refine Ac (f310_ok l b.proc (by omega)) ?_;refine gO ?_;refine⟨fun h=>?_,fun h=>?_⟩
  ·have e:Dm l=false:=by simp[Dm,Bx hb (show ET l i b=false by simp at h;simp[ET,h])]
   simp(disch:=omega)only[go_sem,e];exact AE _
  ·refine hJ _ (i+1) ⟨by simp at hlt;omega,(by rw[B7 hb,hP];simp at h;simp[ET,hw,h])⟩ (by simp at hlt;omega) AR
 ·subst hil;rw[take_length]at hP;have e:Dm l=true:=by simp[Dm,hP];omega
  simp(disch:=omega)only[go_sem,e];exact AE _
def Bu(l:List AS)(p:Ae):List AS:=l.filter fun w=>decide (w.proc≠p)
theorem f205_ok(l:List AS)(p:Ae)(hl:l.length≤1000000):Ad C0 205 [A7 l,.agg p.c] [] (.tup [A7 (Bu l p),B (decide ((Bu l p).length<l.length))]) []:=by
 refine Ad.go f205 ?_;unfold f205;refine gO ?_;refine Ab (α:=Nat) (fun i=>⟨[(11,I i),(10,I l.length),(9,A7 l),(0,A7 l),(3,.ptr 192 0),(6,.sl (.own 1408 0) 7 ((Bu (l.take i) p).map AS.c))],[(192,p.c)]⟩) (fun i=>i≤(l).length∧(Bu (l.take i) p).length≤i) (fun i=>(l).length-i) 0 ⟨by omega,(by simp[Bu])⟩ ?_ ?_
 ·exact BB
 rintro i ⟨hi,hP⟩ J hJ;refine gO ?_;refine ⟨fun hlt=>?_,fun hge=>?_⟩;rotate_left;have hil:i=(l).length:=by simp at hge;omega
 rotate_left;obtain⟨b,hb⟩:∃ b,(l)[i]?=some b:=⟨_,gE (by simp at hlt;omega)⟩;have hbm:=mG hb;simp(disch:=omega)only[go_sem,gm,hb]
 ·refine⟨fun h=>?_,fun h=>?_⟩
  ·refine hJ _ (i+1) ⟨by simp at hlt;omega,?_⟩ (by simp at hlt;omega) (Imp.Am ?_ gI)
   ·simp at h;simp[Bu,take_add_one,hb,h];simp[Bu]at hP;omega
   ·simp(disch:=omega)only[go_sem];exact .sl (by simp at h;simp[Bu,take_add_one,hb,h,AS.c])
  ·refine hJ _ (i+1) ⟨by simp at hlt;omega,?_⟩ (by simp at hlt;omega) (Imp.Am ?_ gI)
   ·simp at h;simp[Bu,take_add_one,hb,h];simp[Bu]at hP;omega
   ·simp(disch:=omega)only[go_sem];exact .sl (by simp at h;simp[Bu,take_add_one,hb,h])
 ·subst hil;rw[take_length]at hP;refine Bc ⟨[],[],[1408]⟩ _ rfl ⟨rfl,rfl⟩ (by simp) ?_ trivial;simp(disch:=omega)only[go_sem,take_length];exact .eq (by simp)
theorem Xu(l:List Bool)(n:Nat)(h:l.length=n):(CH l).take n=CH l:=List.take_of_length_le (by simp[CH,h])
theorem Xv(l:List Bool)(k:Nat)(x:Bool)(h:k<l.length):(CH l).take k++[.v (.bool x)]++(CH l).drop (k+1)=CH (l.set k x):=by
 rw[List.set_eq_take_append_cons_drop,if_pos h];simp[CH]
def CJ(seen:List Bool)(m:Int):Bool:=(List.range 6).all fun k=>!seen.getD k false||BF k m
def Bl(r:Res):List Amt→Int→List Bool→Bool
 |[],_,_=>true
 | a::l,s,seen=>r.permits a&&!decide (r.AA<s+a.AA)&&(if a.mode=0 then Bl r l (s+a.AA) seen else CJ seen a.mode&&Bl r l (s+a.AA) (seen.set a.mode.toNat true))
def no6:List Bool:=[false,false,false,false,false,false]
def Res.compat(r:Res)(l:List Amt):Bool:=r.shaped&&Bl r l 0 no6
theorem JU{r:Res}(h:r.shaped=true):1≤r.AA∧r.AA≤8:=by
 simp only[Res.shaped]at h;split at h
 ·simp at h;omega
 ·split at h
  ·simp[AL]at h;omega
  ·cases h
theorem It{r:Res}{a:Amt}(h:r.permits a=true):0≤a.AA∧a.AA≤8∧(a.mode=0∨Bf a.mode=true):=by
 simp only[Res.permits,Bool.and_eq_true,Bool.or_eq_true]at h;obtain⟨h1,h2|h2⟩:=h
 ·simp[Amt.zero]at h2;omega
 ·simp only[Res.fits,Bool.and_eq_true]at h2;obtain⟨_,h3⟩:=h2;split at h3
  ·simp at h3;obtain⟨h3,h4⟩:=h3;exact⟨by omega,by omega,.inr h3⟩
  ·simp[AL]at h3;have:=JU h1;omega
theorem f272_ok(r:Res)(l:List Amt)(hl:l.length≤1000000):Ad C0 272 [.agg r.c,OE l] [] (B (r.compat l)) []:=by
 refine Ad.go f272 ?_;unfold f272;refine gO ?_;refine Ac (f306_ok r) ?_;cases hs:r.shaped
 ·have e:r.compat l=false:=by simp[Res.compat,hs]
  simp(disch:=omega)only[go_sem,Bool.not_false,e];exact AE _
 obtain⟨hu1,hu2⟩:=JU hs;have hcomp:r.compat l=Bl r l 0 no6:=by simp[Res.compat,hs]
 simp(disch:=omega)only[go_sem,Bool.not_true];refine Ab (α:=Nat × Int × List Bool) (fun q=>⟨[(17,I q.1),(16,I l.length),(15,OE l),(7,I q.2.1),(6,.ptr 384 0),(5,B true),(2,.ptr 128 0)],[(384,CH q.2.2),(128,r.c)]⟩)
  (fun q=>q.1≤l.length∧q.2.2.length=6∧0≤q.2.1∧q.2.1≤8∧Bl r (l.drop q.1) q.2.1 q.2.2=Bl r l 0 no6) (fun q=>l.length-q.1) (0,0,no6) ⟨by simp,rfl,by simp,by simp,by simp⟩ ?_ ?_
 ·refine Imp.Am ?_ ?_
  ·exact gI
  ·simp(disch:=omega)only[go_sem,CH,no6]
 rintro⟨i,sum,seen⟩ ⟨hi,hsl,hs0,hs8,hc⟩ J hJ
 replace hi:i≤l.length:=hi
 replace hsl:seen.length=6:=hsl
 replace hs0:0≤sum:=hs0
 replace hs8:sum≤8:=hs8
 replace hc:Bl r (l.drop i) sum seen=Bl r l 0 no6:=hc
 refine gO ?_;refine ⟨fun hlt=>?_,fun hge=>?_⟩
 ·have hlt':i<l.length:=by simp at hlt;omega
  obtain⟨b,hb⟩:∃ b,l[i]?=some b:=⟨_,gE hlt'⟩;have hd:l.drop i=b::l.drop (i+1):=by
   rw[List.drop_eq_getElem_cons hlt'];rw[gE hlt']at hb;injection hb with hb
   rw[hb]
  rw[hd]at hc;simp only[Bl]at hc;simp(disch:=omega)only[go_sem,gm,hb];refine Ac (f307_ok r b) ?_;cases hp:r.permits b
  ·have e:r.compat l=false:=by rw[hcomp,← hc,hp];rfl
   simp(disch:=omega)only[go_sem,Bool.not_false,e];exact AE _
  obtain⟨hb0,hb8,hbm⟩:=It hp
  by_cases hgt:r.AA<sum+b.AA
  ·have e:r.compat l=false:=by rw[hcomp,← hc,hp];simp[hgt]
   simp(disch:=omega)only[go_sem,Bool.not_true,e,hgt];exact AE _
  rw[hp]at hc
  by_cases hm:b.mode=0
  ·have hm':(b.mode==0)=true:=by simp[hm]
   simp(disch:=omega)only[go_sem,Bool.not_true,hgt,decide_false,hm'];refine hJ _ (i+1,sum+b.AA,seen) ⟨by simp;omega,hsl,by simp;omega,by simp;omega,?_⟩ (by simp;omega) AR;simpa [hgt,hm]using hc
  have hm':(b.mode==0)=false:=by simp[hm]
  have hmo:Bf b.mode=true:=by
   rcases hbm with h|h
   ·exact absurd h hm
   ·exact h
  have hmc:=AT hmo;have hcs:(CJ seen b.mode&&Bl r (l.drop (i+1)) (sum+b.AA) (seen.set b.mode.toNat true))=Bl r l 0 no6:=by simpa [hgt,hm]using hc
  simp(disch:=omega)only[go_sem,Bool.not_true,hgt,decide_false,hm',hsl,Xu];refine Ab (α:=Nat) (fun k=>⟨[(42,I k),(41,.agg (CH seen)),(9,.ptr 576 0),(17,I i),(16,I l.length),(15,OE l),(7,I (sum+b.AA)),(6,.ptr 384 0),(5,B true),(2,.ptr 128 0)],[(576,b.c),(384,CH seen),(128,r.c)]⟩)
   (fun k=>k≤6∧(List.range k).all (fun j=>!seen.getD j false||BF j b.mode)=true) (fun k=>6-k) 0 ⟨by omega,rfl⟩ ?_ ?_
  ·refine Imp.Am ?_ ?_
   ·exact gI
   ·exact gI
  rintro k ⟨hk,hka⟩ J2 hJ2
  by_cases hk6:k<6
  ·have hk6':((k:Int)<6)=True:=by simp;omega
   have hno:seen.getD k false=true→BF k b.mode=false→r.compat l=false:=fun h1 h2=>by
    have:CJ seen b.mode=false:=by
     unfold CJ;rw[List.all_eq_false];exact⟨k,List.mem_range.2 (by omega),by rw[h1,h2];decide⟩
    rw[hcomp,← hcs,this];rfl
   have hyes:(!seen.getD k false||BF k b.mode)=true→(List.range (k+1)).all (fun j=>!seen.getD j false||BF j b.mode)=true:=fun h=>by
    rw[List.range_succ,List.all_append,hka];simpa using h
   simp(disch:=omega)only[go_sem,hk6',hsl,NO,mul_one];refine⟨fun h=>?_,fun h=>?_⟩
   ·refine Ac (f308_ok k b.mode) ?_;cases hcm:BF k b.mode
    ·simp(disch:=omega)only[go_sem,Bool.not_false,hno h hcm];exact AE _
    ·simp(disch:=omega)only[go_sem,Bool.not_true];refine hJ2 _ (k+1) ⟨by omega,hyes (by rw[hcm];simp)⟩ (by omega) AR
   ·refine hJ2 _ (k+1) ⟨by omega,hyes (by rw[h];rfl)⟩ (by omega) AR
  ·have hk6':((k:Int)<6)=False:=by simp;omega
   have hke:k=6:=by omega
   subst hke;have hso:CJ seen b.mode=true:=hka;rw[hso]at hcs;have hm6:(b.mode<6)=True:=by simp;omega
   have hm0:(0≤b.mode)=True:=by simp;omega
   simp(disch:=omega)only[go_sem,hk6',decide_false,hm6,hm0,hsl,mul_one,Xv];refine hJ _ (i+1,sum+b.AA,seen.set b.mode.toNat true) ⟨by simp;omega,by simp[hsl],by simp;omega,by simp;omega,by simpa using hcs⟩ (by simp;omega) AR
 ·have hil:i=l.length:=by simp at hge;omega
  subst hil;rw[drop_length]at hc;have e:r.compat l=true:=by rw[hcomp,← hc];rfl
  simp(disch:=omega)only[go_sem,e];exact AE _
def p0:Ae:=⟨0,0,0⟩
def h0:AO:=⟨⟨0,0,0⟩,⟨0,0⟩⟩
def D3(r:Res)(l:List AO)(i:Nat)(h:AO):Bool:=h.proc.ok&&r.fits h.amt&&(decide (i=0)||decide (Bo (l.getD (i-1) h0).proc h.proc<0))
def Ba(r:Res)(l:List AO):Bool:=r.shaped&&decide (l.length≤8)&&B2 (D3 r l) l&&r.compat (l.map (·.amt))
theorem f277_ok(r:Res)(l:List AO):Ad C0 277 [.agg r.c,AH l] [] (B (Ba r l)) []:=by
 refine Ad.go f277 ?_;unfold f277;refine gO ?_;refine Ac (f306_ok r) ?_;cases hs:r.shaped
 ·have e:Ba r l=false:=by simp[Ba,hs]
  simp(disch:=omega)only[go_sem,Bool.not_false,e];exact AE _
 by_cases h8:8<l.length
 ·have e1:(8<(l.length:Int))=True:=by simp;omega
  have e:Ba r l=false:=by simp[Ba];omega
  simp(disch:=omega)only[go_sem,Bool.not_true,e1,e];exact AE _
 have e1:(8<(l.length:Int))=False:=by simp;omega
 simp(disch:=omega)only[go_sem,Bool.not_true,e1,decide_false];refine Ab (α:=Nat) (fun i=>⟨[(18,I i),(17,I l.length),(16,AH l),(1,AH l),(2,.ptr 128 0),(5,.sl (.own 3328 0) 2 ((l.take i).map fun h=>h.amt.c))],[(128,r.c)]⟩) (fun i=>i≤(l).length∧B2 (D3 r l) (l.take i)=true) (fun i=>(l).length-i) 0 ⟨by omega,rfl⟩ ?_ ?_
 ·exact BB
 rintro i ⟨hi,hP⟩ J hJ;refine gO ?_;refine ⟨fun hlt=>?_,fun hge=>?_⟩;rotate_left;have hil:i=(l).length:=by simp at hge;omega
 rotate_left;obtain⟨b,hb⟩:∃ b,(l)[i]?=some b:=⟨_,gE (by simp at hlt;omega)⟩;have hbm:=mG hb;simp(disch:=omega)only[go_sem,gm,hb]
 ·refine Ac (f102_ok b.proc) ?_;have bad:D3 r l i b=false→Ba r l=false:=fun h=>by simp[Ba,Bx hb h]
  cases hp:b.proc.ok
  ·simp(disch:=omega)only[go_sem,Bool.not_false,bad (by simp[D3,hp])];exact AE _
  simp(disch:=omega)only[go_sem,Bool.not_true];refine Ac (f281_ok r b.amt) ?_;cases hf:r.fits b.amt
  ·simp(disch:=omega)only[go_sem,Bool.not_false,bad (by simp[D3,hf])];exact AE _
  simp(disch:=omega)only[go_sem,Bool.not_true];refine Aq 11 [([],[6]),([],[34]),([],[35]),([],[1,36]),([],[6,36]),([],[38,36]),([],[37,39,36]),([],[40,36]),([],[41,36]),([],[7,36]),([],[43,36])] fol ?_;have good:(decide (i=0)||decide (Bo (l.getD (i-1) h0).proc b.proc<0))=true→B2 (D3 r l) (l.take (i+1))=true:=fun h=>by
   rw[B7 hb,hP];simp only[D3,hp,hf,h];rfl
  by_cases hi0:i=0
  ·subst hi0;refine gO ?_;refine hJ _ 1 ⟨by simp at hlt;omega,good (by simp)⟩ (by simp at hlt;omega) (Imp.Am ?_ gI);refine gO ?_;exact .sl (by simp[List.take_one,List.head?_eq_getElem?,hb,Amt.c])
  ·have hi1:(0<(i:Int))=True:=by simp;omega
   have hi2:((i:Int)-1)=((i-1:Nat):Int):=by omega
   obtain⟨a,ha⟩:∃ a,l[i-1]?=some a:=⟨_,gE (by simp at hlt;omega)⟩;have had:l.getD (i-1) h0=a:=by simp[List.getD,ha]
   simp(disch:=omega)only[go_sem,hi1,hi2,gm,ha];refine Ac (f61_ok a.proc b.proc) ?_;refine gO ?_
   by_cases hc:0≤Bo a.proc b.proc
   ·have e:Ba r l=false:=bad (by simp only[D3,had];simp[hi0];omega);simp(disch:=omega)only[go_sem,hc,e];exact AE _
   ·simp(disch:=omega)only[go_sem,hc,decide_false];refine hJ _ (i+1) ⟨by simp at hlt;omega,good (by rw[had];simp;omega)⟩ (by simp at hlt;omega) (Imp.Am ?_ gI);refine gO ?_;exact .sl (by simp[take_add_one,hb,Amt.c])
 ·subst hil;rw[take_length]at hP;have ee:Ba r l=r.compat (l.map (·.amt)):=by simp[Ba,hs,hP];omega
  refine C2 [3328] (f272_ok r (l.map (·.amt)) (by simp;omega)) ?_ rfl trivial ?_
  ·simp(disch:=omega)only[go_sem,take_length];exact .sl (by simp[Amt.c])
  rw[ee];refine gO ?_;exact AE _
theorem f271_ok(r:Res)(l:List AO)(p:Ae)(a:Amt):Ad C0 271 [.agg r.c,AH l,.agg p.c,.agg a.c] [] (B (Ba r l&&p.ok&&r.fits a)) []:=by
 refine Ad.go f271 ?_;unfold f271;simp(disch:=omega)only[go_sem]
 repeat'(first
  |(with_reducible refine And.intro (fun h=>?_) (fun h=>?_))
  |((with_reducible show AY _ _ 277 _ _ _);refine Ai (f277_ok r l) ?_ rfl ?_;(focus(simp(disch:=omega)only[go_sem];done));try simp(disch:=omega)only[go_sem])
  |((with_reducible show AY _ _ 102 _ _ _);refine Ai (f102_ok p) ?_ rfl ?_;(focus(simp(disch:=omega)only[go_sem];done));try simp(disch:=omega)only[go_sem])
  |((with_reducible show AY _ _ 281 _ _ _);refine Ai (f281_ok r a) ?_ rfl ?_;(focus(simp(disch:=omega)only[go_sem];done));try simp(disch:=omega)only[go_sem]))
 all_goals(refine B8 _ ?_)
 all_goals(try simp(disch:=omega)only[go_sem])
 all_goals(refine .eq ?_)
 all_goals(first|(simp_all[]<;>omega)|(refine Bool.eq_iff_iff.2 ?_;simp_all[]<;>omega))
def w0:AS:=⟨⟨0,0,0⟩,⟨0,0⟩,0,0⟩
def Bj(q:Queue):Option AS:=match q.An++q.waits with
 | w::_=>some w
 |[]=>none
theorem f237_ok(q:Queue):Ad C0 237 [.agg q.c] [] (.tup [.agg ((Bj q).getD w0).c,B (Bj q).isSome]) []:=by
 refine Ad.go f237 ?_;unfold f237
 match hq:q.An,hw:q.waits with
 | w::l,_ =>
  have e:Bj q=some w:=by simp[Bj,hq]
  have e1:(0<(l.length:Int)+1)=True:=by simp
  simp(disch:=omega)only[go_sem,hq,e,e1,isSome_some];exact AE _
 |[],w::l =>
  have e:Bj q=some w:=by simp[Bj,hq,hw]
  have e1:(0<(l.length:Int)+1)=True:=by simp
  simp(disch:=omega)only[go_sem,hq,hw,e,e1,isSome_some];exact AE _
 |[],[] =>
  have e:Bj q=none:=by simp[Bj,hq,hw]
  simp(disch:=omega)only[go_sem,hq,hw,e,Option.isSome_none,w0];exact AE _
theorem f200_ok(q:Queue)(h1:q.holds.length≤1000000)(h2:q.An.length≤1000000)(h3:q.waits.length≤1000000):Ad C0 200 [.agg q.c] [] (.agg q.c) []:=by
 refine Ad.go f200 ?_;unfold f200;refine gO ?_;refine Cf ⟨[],[],[320,576,832]⟩ _ ?_;simp(disch:=omega)only[go_sem,AH]
theorem f240_ok(a:Atom):Ad C0 240 [.agg a.c] [] (B (Dd a.name&&(GX.fits a.amt||G0.fits a.amt))) []:=by
 refine Ad.go f240 ?_;unfold f240;simp(disch:=omega)only[go_sem]
 repeat'(first
  |(with_reducible refine And.intro (fun h=>?_) (fun h=>?_))
  |((with_reducible show AY _ _ 280 _ _ _);refine Ai (f280_ok a.name) ?_ rfl ?_;(focus(simp(disch:=omega)only[go_sem];done));try simp(disch:=omega)only[go_sem])
  |((with_reducible show AY _ _ 281 _ _ _);refine Ai (f281_ok ⟨[],1,1,0⟩ a.amt) ?_ rfl ?_;(focus(simp(disch:=omega)only[go_sem];done));try simp(disch:=omega)only[go_sem])
  |((with_reducible show AY _ _ 281 _ _ _);refine Ai (f281_ok ⟨[],2,8,0⟩ a.amt) ?_ rfl ?_;(focus(simp(disch:=omega)only[go_sem];done));try simp(disch:=omega)only[go_sem]))
 all_goals(refine B8 _ ?_)
 all_goals(try simp(disch:=omega)only[go_sem])
 all_goals(refine .eq ?_)
 all_goals(first|(simp_all[GX,G0]<;>omega)|(refine Bool.eq_iff_iff.2 ?_;simp_all[GX,G0]<;>omega))
mutual
def meas:Expr→Int→Int→Int × Int
 |.mk _ _ kids,lv,n=>if 4<lv∨24<n+1 then (0,n+1) else EU kids lv (n+1) 0
def EU:List Expr→Int→Int→Int→Int × Int
 |[],_,n,d=>(d+1,n)
 | e::l,lv,n,d=>if (meas e (lv+1) n).1=0 then (0,(meas e (lv+1) n).2) else EU l lv (meas e (lv+1) n).2 (max d (meas e (lv+1) n).1)
end
theorem I9(e:Expr)(lv n:Int):meas e lv n=if 4<lv∨24<n+1 then (0,n+1) else EU e.kids lv (n+1) 0:=by
 cases e;simp[meas,Expr.kids]
theorem CX{e k:Expr}(h:k∈e.kids):SizeOf.sizeOf k<SizeOf.sizeOf e:=by
 cases e with
 | mk a b l =>
  have h:k∈l:=h;have:=List.sizeOf_lt_of_mem h;simp;omega
def bd(lv:Int)(x:Int × Int):Prop:=0≤x.1∧x.1≤6-lv∧0≤x.2∧x.2≤25∧(x.1≠0→x.2≤24)
theorem UI(lv:Int)(h1:1≤lv)(h4:lv≤4):∀ (l:List Expr) (n d:Int),(∀ e∈l,∀ n:Int,0≤n→n≤24→bd (lv+1) (meas e (lv+1) n))→0≤n→n≤24→0≤d→d≤5-lv→bd lv (EU l lv n d)
 |[],n,d,_,hn,hn2,hd,hd2=>by
  simp only[EU,bd];omega
 | e::l,n,d,hk,hn,hn2,hd,hd2=>by
  obtain⟨b1,b2,b3,b4,b5⟩:=hk e (by simp) n hn hn2;simp only[EU];split
  ·simp only[bd];omega
  ·rename_i h0;have:=b5 h0;exact UI lv h1 h4 l _ _ (fun e' he=>hk e' (by simp[he])) b3 this (by omega) (by omega)
theorem Ly:∀ (N:Nat) (e:Expr),SizeOf.sizeOf e<N→∀ lv n:Int,1≤lv→lv≤5→0≤n→n≤24→bd lv (meas e lv n)
 | 0,_,h,_,_,_,_,_,_=>by omega
 | N+1,e,h,lv,n,h1,h5,h2,h3=>by
  rw[I9];split
  ·simp only[bd];omega
  ·rename_i hc;exact UI lv h1 (by omega) _ _ _ (fun e' he n' hn hn2=>Ly N e' (by have:=CX he;omega) _ _ (by omega) (by omega) hn hn2) (by omega) (by omega) (by omega) (by omega)
theorem f239_ok:∀ (N:Nat) (e:Expr),SizeOf.sizeOf e<N→∀ lv n:Int,1≤lv→lv≤5→0≤n→n≤24 →
 Ad C0 239 [.agg e.c,I lv,.ptr 63 0] [(63,[I n])] (I (meas e lv n).1) [(63,[I (meas e lv n).2])]
 | 0,_,h,_,_,_,_,_,_=>by omega
 | N+1,e,h,lv,n,h1,h5,h2,h3=>by
  refine Ad.lens f239 fun hlen=>?_
  simp only[D9,lens,Expr.By,List.length_map,and_true,true_and]at hlen;refine Ad.go f239 ?_;unfold f239
  by_cases hc:4<lv∨24<n+1
  ·have em:meas e lv n=(0,n+1):=by rw[I9,if_pos hc]
   simp(disch:=omega)only[go_sem,em]
   repeat'(with_reducible refine And.intro (fun h=>?_) (fun h=>?_))
   all_goals(try(exfalso;simp_all;omega))
   all_goals(refine Bc ⟨[],[(63,63)],[]⟩ _ rfl ⟨rfl,rfl⟩ (by simp[lk]) ?_ ?_)
   all_goals simp(disch:=omega)only[go_sem]
  have em:meas e lv n=EU e.kids lv (n+1) 0:=by rw[I9,if_neg hc]
  have hc1:(4<lv)=False:=by simp;omega
  have hc2:(24<n+1)=False:=by simp;omega
  simp(disch:=omega)only[go_sem,em,hc1,hc2,decide_false];refine Ab (α:=Nat × Int × Int) (fun q=>⟨[(27,I q.1),(26,I e.kids.length),(25,EJ e.kids),(7,I q.2.2),(1,I lv),(2,.ptr 63 0)],[(63,[I q.2.1])]⟩)
   (fun q=>q.1≤e.kids.length∧0≤q.2.1∧q.2.1≤24∧0≤q.2.2∧q.2.2≤5-lv∧EU (e.kids.drop q.1) lv q.2.1 q.2.2=EU e.kids lv (n+1) 0) (fun q=>e.kids.length-q.1) (0,n+1,0) ⟨by simp,by simp;omega,by simp;omega,by simp,by simp;omega,by simp⟩ ?_ ?_
  ·refine Imp.Am ?_ ?_
   ·exact gI
   ·exact gI
  rintro⟨i,m,d⟩ ⟨hi,hm0,hm,hd0,hd,hr⟩ J hJ
  replace hi:i≤e.kids.length:=hi
  replace hm0:0≤m:=hm0
  replace hm:m≤24:=hm
  replace hd0:0≤d:=hd0
  replace hd:d≤5-lv:=hd
  replace hr:EU (e.kids.drop i) lv m d=EU e.kids lv (n+1) 0:=hr
  refine gO ?_;refine ⟨fun hlt=>?_,fun hge=>?_⟩
  ·have hlt':i<e.kids.length:=by simp at hlt;omega
   have hb:e.kids[i]?=some e.kids[i]:=gE hlt';have hsz:=CX (List.getElem_mem hlt');have hdr:e.kids.drop i=e.kids[i]::e.kids.drop (i+1):=List.drop_eq_getElem_cons hlt';generalize e.kids[i]=b at hb hsz hdr;rw[hdr]at hr;simp only[EU]at hr;simp(disch:=omega)only[go_sem,gm,hb];refine Bn ⟨⟨[],[(63,63)],[]⟩,[],[]⟩ (f239_ok N b (by omega) (lv+1) m (by omega) (by omega) hm0 hm) gI rfl gI (.inl rfl) ?_;obtain⟨b1,b2,b3,b4,b5⟩:=Ly N b (by omega) (lv+1) m (by omega) (by omega) hm0 hm;generalize meas b (lv+1) m=x at hr b1 b2 b3 b4 b5
   by_cases h0:x.1=0
   ·have e0:(x.1==0)=true:=by simp[h0]
    rw[if_pos h0]at hr;simp(disch:=omega)only[go_sem,e0];refine Bc ⟨[],[(63,63)],[]⟩ _ rfl ⟨rfl,rfl⟩ (by simp[lk]) ?_ ?_
    ·simp(disch:=omega)only[go_sem,← hr]
    ·simp(disch:=omega)only[go_sem,← hr]
   ·have e0:(x.1==0)=false:=by simp[h0]
    rw[if_neg h0]at hr;have hx:=b5 h0;simp(disch:=omega)only[go_sem,e0];refine hJ _ (i+1,x.2,max d x.1) ⟨by simp;omega,b3,hx,by simp;omega,by simp;omega,hr⟩ (by simp;omega) (Imp.Am ?_ gI);refine gO ?_;exact .int (by rw[Int.max_def];split<;>split<;>omega)
  ·have hil:i=e.kids.length:=by simp at hge;omega
   subst hil;rw[drop_length]at hr;simp only[EU]at hr;simp(disch:=omega)only[go_sem,← hr];refine Bc ⟨[],[(63,63)],[]⟩ _ rfl ⟨rfl,rfl⟩ (by simp[lk]) ?_ ?_
   ·exact gI
   ·exact gI
def depth(e:Expr):Int:=(meas e 1 0).1
theorem f156_ok(e:Expr):Ad C0 156 [.agg e.c] [] (I (depth e)) []:=by
 refine Ad.go f156 ?_;unfold f156;refine gO ?_;refine Bn ⟨⟨[],[(192,63)],[]⟩,[],[]⟩ (f239_ok _ e (Nat.lt_succ_self _) 1 0 (by omega) (by omega) (by omega) (by omega)) gI rfl gI (.inl rfl) ?_;refine gO ?_;refine Ap _ ?_;exact .eq rfl
@[go_sem] theorem gB(p q:Atom):(p.name==q.name&&decide (p.amt=q.amt))=decide (p=q):=by
 cases p;cases q;refine Bool.eq_iff_iff.2 ?_;simp
def hit(a b:Atom):Bool:=decide (a=b)||a.name==b.name
def EV(l:List Atom)(a:Atom):Int × List Atom:=match l.find? (hit a) with
 |some b=>(if a=b then 0 else 13,l)
 |none=>if l.length=8 then (4,l) else (0,l++[a])
@[reducible] def CS(r:Nat)(l:List Atom):AV:=.sl (.own r 0) 3 (l.map Atom.c)
theorem f241_ok(l:List Atom)(a:Atom)(h8:l.length≤8):Ad C0 241 [.ptr 63 0,.agg a.c] [(63,[CS 0 l])] (I (EV l a).1) [(63,[CS 1 (EV l a).2])]:=by
 refine Ad.go f241 ?_;unfold f241;refine gO ?_;refine Ab (α:=Nat) (fun i=>⟨[(11,I i),(10,I l.length),(9,CS 0 l),(0,.ptr 63 0),(3,.ptr 192 0)],[(63,[CS 0 l]),(192,a.c)]⟩) (fun i=>i≤(l).length∧(l.take i).find? (hit a)=none) (fun i=>(l).length-i) 0 ⟨by omega,rfl⟩ ?_ ?_
 ·exact BB
 rintro i ⟨hi,hP⟩ J hJ;refine gO ?_;refine ⟨fun hlt=>?_,fun hge=>?_⟩;rotate_left;have hil:i=(l).length:=by simp at hge;omega
 rotate_left;obtain⟨b,hb⟩:∃ b,(l)[i]?=some b:=⟨_,gE (by simp at hlt;omega)⟩;have hbm:=mG hb;simp(disch:=omega)only[go_sem,gm,hb]
 ·refine⟨fun h=>?_,fun h=>?_⟩
  ·have e:EV l a=(0,l):=by
    unfold EV;rw[GI hP hb (by simp at h;simp[hit,h])];simp at h;simp[h]
   simp(disch:=omega)only[go_sem,e];refine Bc ⟨[(0,1)],[(63,63)],[]⟩ _ rfl ⟨rfl,rfl⟩ (by simp[lk]) ?_ ?_
   ·exact gI
   ·exact gI
  refine And.intro (fun h'=>?_) (fun h'=>?_)
  ·have e:EV l a=(13,l):=by
    unfold EV;rw[GI hP hb (by simp at h';simp[hit,h'])];simp at h;simp[h]
   simp(disch:=omega)only[go_sem,e];refine Bc ⟨[(0,1)],[(63,63)],[]⟩ _ rfl ⟨rfl,rfl⟩ (by simp[lk]) ?_ ?_
   ·exact gI
   ·exact gI
  ·refine hJ _ (i+1) ⟨by simp at hlt;omega,(by rw[BS hP hb];simp at h h';simp[hit,h,h'])⟩ (by simp at hlt;omega) AR
 ·subst hil;rw[take_length]at hP
  by_cases h9:l.length=8
  ·have e:EV l a=(4,l):=by unfold EV;rw[hP];simp[h9]
   have e9:((l.length:Int)==8)=true:=by simp[h9];
   simp(disch:=omega)only[go_sem,e,e9];refine Bc ⟨[(0,1)],[(63,63)],[]⟩ _ rfl ⟨rfl,rfl⟩ (by simp[lk]) ?_ ?_
   ·exact gI
   ·exact gI
  ·have e:EV l a=(0,l++[a]):=by unfold EV;rw[hP];simp[h9]
   have e9:((l.length:Int)==8)=false:=by simp;omega
   simp(disch:=omega)only[go_sem,e,e9];refine MU (let o0:OT:=.done;let o1:OT:=.pick [(8,o0)];let o2:OT:=.pick [(7,o1)];let o3:OT:=.pick [(6,o2)];let o4:OT:=.pick [(5,o3)];let o5:OT:=.pick [(4,o4)];let o6:OT:=.pick [(3,o3)];let o7:OT:=.pick [(3,o4),(5,o6)];let o8:OT:=.pick [(3,o5),(4,o7)];let o9:OT:=.pick [(2,o6)];let o10:OT:=.pick [(2,o7),(5,o9)];let o11:OT:=.pick [(2,o8),(4,o10)];let o12:OT:=.pick [(1,o9)];let o13:OT:=.pick [(1,o10),(5,o12)];let o14:OT:=.pick [(1,o11),(4,o13)];let o15:OT:=.pick [(0,o2)];let o16:OT:=.pick [(0,o3),(6,o15)];let o17:OT:=.pick [(0,o4),(5,o16)];let o18:OT:=.pick [(0,o5),(4,o17)];let o19:OT:=.pick [(0,o6),(3,o16)];let o20:OT:=.pick [(0,o7),(3,o17),(5,o19)];let o21:OT:=.pick [(0,o8),(3,o18),(4,o20)];let o22:OT:=.pick [(0,o9),(2,o19)];let o23:OT:=.pick [(0,o10),(2,o20),(5,o22)];let o24:OT:=.pick [(0,o11),(2,o21),(4,o23)];let o25:OT:=.pick [(0,o12),(1,o22)];let o26:OT:=.pick [(0,o13),(1,o23),(5,o25)];let o27:OT:=.pick [(0,o14),(1,o24),(4,o26)];o27) fol (by kernel_rfl) ?_;simp(disch:=omega)only[go_sem]
   repeat'(with_reducible refine And.intro ?_ ?_)
   all_goals(refine Bc ⟨[(2240,1)],[(63,63)],[]⟩ _ rfl ⟨rfl,rfl⟩ (by simp[lk]) ?_ ?_)
   all_goals(try simp(disch:=omega)only[go_sem])
   all_goals exact .sl (by simp[Atom.c])
theorem ZP{l:List Atom}{a:Atom}(h:l.length≤8):(EV l a).2.length≤8:=by
 unfold EV;split
 ·exact h
 ·split
  ·exact h
  ·simp;omega
def Ju(a:Atom):Bool:=Dd a.name&&(GX.fits a.amt||G0.fits a.amt)
def a0:Atom:=⟨[],⟨0,0⟩⟩
theorem SO(p:Atom):(p.name==[]&&(p.amt.mode==0&&p.amt.AA==0))=decide (p=a0):=by
 cases p with
 | mk n a =>
  cases a;refine Bool.eq_iff_iff.2 ?_;simp[a0]
mutual
def prop:Expr→List Atom→Bool × List Atom
 |.mk k a kids,l=>if kids.length=0 then (if k=0∧Ju a=true then ((EV l a).1==0,(EV l a).2) else (false,l))
  else if k<1∨(kids.length:Int)<k∨a≠a0 then (false,l) else B5 kids l
def B5:List Expr→List Atom→Bool × List Atom
 |[],l=>(true,l)
 | e::es,l=>if (prop e l).1=true then B5 es (prop e l).2 else (false,(prop e l).2)
end
theorem Dz(e:Expr)(l:List Atom):prop e l=if e.kids.length=0 then (if e.k=0∧Ju e.atom=true then ((EV l e.atom).1==0,(EV l e.atom).2) else (false,l))
 else if e.k<1∨(e.kids.length:Int)<e.k∨e.atom≠a0 then (false,l) else B5 e.kids l:=by
 cases e;simp only[prop];rfl
theorem U1:∀ (es:List Expr) (l:List Atom),(∀ e∈es,∀ l:List Atom,l.length≤8→(prop e l).2.length≤8)→l.length≤8→(B5 es l).2.length≤8
 |[],l,_,h=>by simpa [B5]using h
 | e::es,l,hk,h=>by
  have:=hk e (by simp) l h;simp only[B5];split
  ·exact U1 es _ (fun e' he=>hk e' (by simp[he])) this
  ·exact this
theorem PA:∀ (N:Nat) (e:Expr),SizeOf.sizeOf e<N→∀ l:List Atom,l.length≤8→(prop e l).2.length≤8
 | 0,_,h,_,_=>by omega
 | N+1,e,h,l,hl=>by
  rw[Dz];split
  ·split
   ·exact ZP hl
   ·exact hl
  ·split
   ·exact hl
   ·exact U1 _ _ (fun e' he l' hl'=>PA N e' (by have:=CX he;omega) l' hl') hl
theorem f157_ok:∀ (N:Nat) (e:Expr),SizeOf.sizeOf e<N→∀ l:List Atom,l.length≤8 →
 Ad C0 157 [.agg e.c,.ptr 63 0] [(63,[CS 0 l])] (B (prop e l).1) [(63,[CS 1 (prop e l).2])]
 | 0,_,h,_,_=>by omega
 | N+1,e,h,l,hl=>by
  refine Ad.lens f157 fun hlen=>?_
  simp only[D9,lens,Expr.By,List.length_map,and_true,true_and]at hlen;refine Ad.go f157 ?_;unfold f157
  by_cases hk:e.kids.length=0
  ·have e1:((e.kids.length:Int)==0)=true:=by simp[hk]
   simp(disch:=omega)only[go_sem,e1]
   by_cases h0:e.k=0
   ·have e2:(e.k==0)=true:=by simp[h0]
    simp(disch:=omega)only[go_sem,e2];refine Ac (f240_ok e.atom) ?_;cases ha:Ju e.atom
    ·have ha':(Dd e.atom.name&&(GX.fits e.atom.amt||G0.fits e.atom.amt))=false:=ha;have ep:prop e l=(false,l):=by rw[Dz,if_pos hk,if_neg (by simp[ha])]
     simp(disch:=omega)only[go_sem,ha',ep];refine Bc ⟨[(0,1)],[(63,63)],[]⟩ _ rfl ⟨rfl,rfl⟩ (by simp[lk]) ?_ ?_
     ·exact gI
     ·exact gI
    ·have ha':(Dd e.atom.name&&(GX.fits e.atom.amt||G0.fits e.atom.amt))=true:=ha;have ep:prop e l=((EV l e.atom).1==0,(EV l e.atom).2):=by rw[Dz,if_pos hk,if_pos ⟨h0,ha⟩]
     simp(disch:=omega)only[go_sem,ha',ep];refine Bn ⟨⟨[(0,0)],[(63,63)],[]⟩,[(1,1472)],[]⟩ (f241_ok l e.atom hl) gI rfl gI (.inl rfl) ?_;refine gO ?_;refine Bc ⟨[(1472,1)],[(63,63)],[]⟩ _ rfl ⟨rfl,rfl⟩ (by simp[lk]) ?_ ?_
     ·exact gI
     ·exact gI
   ·have e2:(e.k==0)=false:=by simp[h0]
    have ep:prop e l=(false,l):=by rw[Dz,if_pos hk,if_neg (by simp[h0])]
    simp(disch:=omega)only[go_sem,e2,ep];refine Bc ⟨[(0,1)],[(63,63)],[]⟩ _ rfl ⟨rfl,rfl⟩ (by simp[lk]) ?_ ?_
    ·exact gI
    ·exact gI
  have e1:((e.kids.length:Int)==0)=false:=by simp only[beq_eq_false_iff_ne,ne_eq];omega
  have ez:(e.atom.name==[]&&(e.atom.amt.mode==0&&e.atom.amt.AA==0))=decide (e.atom=a0):=SO e.atom
  by_cases hbad:e.k<1∨(e.kids.length:Int)<e.k∨e.atom≠a0
  ·have ep:prop e l=(false,l):=by rw[Dz,if_neg hk,if_pos hbad]
   simp(disch:=omega)only[go_sem,e1,ez,ep]
   repeat'(with_reducible refine And.intro (fun h=>?_) (fun h=>?_))
   all_goals(try(exfalso;simp_all;omega))
   all_goals(refine Bc ⟨[(0,1)],[(63,63)],[]⟩ _ rfl ⟨rfl,rfl⟩ (by simp[lk]) ?_ ?_)
   all_goals simp(disch:=omega)only[go_sem]
  have ep:prop e l=B5 e.kids l:=by rw[Dz,if_neg hk,if_neg hbad]
  have b1:(e.k<1)=False:=by simp;omega
  have b2:((e.kids.length:Int)<e.k)=False:=by simp;omega
  have b3:e.atom=a0:=by
   by_cases h:e.atom=a0
   ·exact h
   ·exact absurd (Or.inr (Or.inr h)) hbad
  have ez':(e.atom.name==[]&&(e.atom.amt.mode==0&&e.atom.amt.AA==0))=true:=by rw[ez];simp[b3]
  simp(disch:=omega)only[go_sem,e1,ez',b1,b2,decide_false,ep];refine Ab (α:=Nat × List Atom) (fun q=>⟨[(46,I q.1),(45,I e.kids.length),(44,EJ e.kids),(1,.ptr 63 0)],[(63,[CS 3328 q.2])]⟩)
   (fun q=>q.1≤e.kids.length∧q.2.length≤8∧B5 (e.kids.drop q.1) q.2=B5 e.kids l) (fun q=>e.kids.length-q.1) (0,l) ⟨by simp,hl,by simp⟩ ?_ ?_
  ·refine Imp.ren ⟨[(0,3328)],[(63,63)],[]⟩ ⟨rfl,rfl⟩ (by simp[lk]) ?_ ?_
   ·exact gI
   ·exact gI
  rintro⟨i,m⟩ ⟨hi,hm,hr⟩ J hJ
  replace hi:i≤e.kids.length:=hi
  replace hm:m.length≤8:=hm
  replace hr:B5 (e.kids.drop i) m=B5 e.kids l:=hr
  refine gO ?_;refine ⟨fun hlt=>?_,fun hge=>?_⟩
  ·have hlt':i<e.kids.length:=by simp at hlt;omega
   have hb:e.kids[i]?=some e.kids[i]:=gE hlt';have hsz:=CX (List.getElem_mem hlt');have hdr:e.kids.drop i=e.kids[i]::e.kids.drop (i+1):=List.drop_eq_getElem_cons hlt';generalize e.kids[i]=b at hb hsz hdr;rw[hdr]at hr;simp only[B5]at hr;simp(disch:=omega)only[go_sem,gm,hb];refine Bn ⟨⟨[(3328,0)],[(63,63)],[]⟩,[(1,3329)],[]⟩ (f157_ok N b (by omega) m hm) gI rfl gI (.inl rfl) ?_;have hx:=PA N b (by omega) m hm;generalize prop b m=x at hr hx;cases hx1:x.1
   ·rw[hx1]at hr;simp only[Bool.false_eq_true,if_false]at hr;simp(disch:=omega)only[go_sem,Bool.not_false];refine Bc ⟨[(3329,1)],[(63,63)],[]⟩ _ rfl ⟨rfl,rfl⟩ (by simp[lk]) ?_ ?_
    ·simp(disch:=omega)only[go_sem,← hr]
    ·simp(disch:=omega)only[go_sem,← hr]
   ·rw[hx1]at hr;simp only[if_true]at hr;simp(disch:=omega)only[go_sem,Bool.not_true];refine hJ _ (i+1,x.2) ⟨by simp;omega,hx,hr⟩ (by simp;omega) (Imp.ren ⟨[(3329,3328)],[(63,63)],[]⟩ ⟨rfl,rfl⟩ (by simp[lk]) ?_ ?_)
    ·exact gI
    ·exact gI
  ·have hil:i=e.kids.length:=by simp at hge;omega
   subst hil;rw[drop_length]at hr;simp only[B5]at hr;simp(disch:=omega)only[go_sem,← hr];refine Bc ⟨[(3328,1)],[(63,63)],[]⟩ _ rfl ⟨rfl,rfl⟩ (by simp[lk]) ?_ ?_
   ·exact gI
   ·exact gI
def A4(e:Expr):Bool:=!(depth e==0)&&(prop e []).1
theorem f103_ok(e:Expr):Ad C0 103 [.agg e.c] [] (B (A4 e)) []:=by
 refine Ad.go f103 ?_;unfold f103;refine gO ?_;refine Ac (f156_ok e) ?_;refine gO ?_;refine⟨fun h=>?_,fun h=>?_⟩
 ·refine Bn ⟨⟨[],[(192,63)],[]⟩,[(1,576)],[]⟩ (f157_ok _ e (Nat.lt_succ_self _) [] (by simp)) gI rfl (by simp(disch:=omega)only[go_sem,List.map_nil];exact .AG (by omega)) (.inl rfl) ?_;refine gO ?_;refine Ap _ ?_;exact .eq (by simp at h;simp[A4,h])
 ·refine Ap _ ?_;exact .eq (by simp at h;simp[A4,h])
end Go.Rd
