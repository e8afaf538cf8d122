/- part 10 of the proof -/
import Derived.Test.YthachdiockkofaaGreatDoorL09
set_option linter.all false
open Go Go.Abs Go.Proofs
set_option maxRecDepth 100000
namespace Go.Rd
set_option maxHeartbeats 8000000
open List (all_append all_cons all_eq_false any_cons any_nil drop_eq_getElem_cons drop_length length_map length_nil map_cons mem_append)
open Bool (and_eq_true or_eq_true)
open Option (isSome_none isSome_some map_some)
open Nat (mul_one)
open Tryz
def cg:List Bool:=[true,true,true,true,false,true,true,false,false,false,true,false,true,false,false,true,false,false,false,false,false,false,false,false,false]
def CT(l:List Bool):List AV:=l.map fun b=>.v (.bool b)
@[go_sem] theorem eT(S T:List Nat)(l:List Bool):EC S T (CT l)=CT l:=by
 induction l with
 | nil=>rfl
 | cons x l ih=>simp only[CT,map_cons,EC,AV.kill]at ih ⊢;rw[ih]
@[go_sem] theorem gk(ρ:Rn)(l:List Bool):Fq ρ (CT l)=CT l:=by
 induction l with
 | nil=>rfl
 | cons x l ih=>simp only[CT,map_cons,Fq,AV.ren]at ih ⊢;rw[ih]
@[go_sem] theorem gj(l:List Bool):(CT l).length=l.length:=by simp[CT]
def Od(l:List Bool)(k:Nat)(h:k<l.length):((CT l).drop k).take 1=[.v (.bool (l.getD k false))]:=by
 rw[drop_eq_getElem_cons (by simpa [CT]using h)];simp[CT,List.getD,h]
def tog:List AV:=CT cg
noncomputable abbrev C0:Ctx:=⟨prog,fun i=>if i=0 then some tog else none⟩
@[go_sem] theorem kK(st:St):ev C0 st (.global 0)=.ep .no 0 tog 0:=rfl
def AI(n a b:Int):Bool:=decide (a≤n)&&decide (n≤b)
def f155_ok(n a b:Int):Ad C0 155 [I n,I a,I b] [] (B (AI n a b)) []:=by
 refine Ad.go f155 ?_;unfold f155;refine gO ?_;refine⟨fun h=>?_,fun h=>?_⟩
 ·refine As _ ?_;exact .eq (by simp[AI,h])
 ·refine As _ ?_;exact .eq (by simp[AI,h])
def Ab.ok(p:Ab):Bool:=AI p.site 0 3&&AI p.inc 1 99&&AI p.num 1 999
def f102_ok(p:Ab):Ad C0 102 [.agg p.c] [] (B p.ok) []:=by
 refine Ad.go f102 ?_;unfold f102;refine gO ?_;refine Ae (f155_ok p.site 0 3) ?_;refine gO ?_;refine⟨fun h=>?_,fun h=>?_⟩
 ·refine Ae (f155_ok p.inc 1 99) ?_;refine gO ?_;refine⟨fun h2=>?_,fun h2=>?_⟩
  ·refine Ae (f155_ok p.num 1 999) ?_;refine gO ?_;refine As _ ?_;exact .eq (by simp[Ab.ok,h,h2])
  ·refine As _ ?_;exact .eq (by simp[Ab.ok,h,h2])
 ·refine As _ ?_;exact .eq (by simp[Ab.ok,h])
def Bc(p q:Ab):Int:=if p.site<q.site then -1 else if q.site<p.site then 1 else if p.inc<q.inc then -1 else if q.inc<p.inc then 1 else if p.num<q.num then -1 else if q.num<p.num then 1 else 0
def f112_ok(p q:Ab):Ad C0 112 [.agg p.c,.agg q.c] [] (I (Bc p q)) []:=by
 refine Ad.go f112 ?_;unfold f112;refine gO ?_;refine Ac (α:=Nat) (fun i=>⟨[(8,I i),(7,.agg p.c),(3,.ptr 192 0)],[(192,q.c)]⟩) (fun i=>i≤3∧(1≤i→p.site=q.site)∧(2≤i→p.inc=q.inc)∧(3≤i→p.num=q.num)) (fun i=>3-i) 0 (by simp) ?_ ?_
 ·exact Imp.Ar gI gI
 rintro i ⟨hi,h1,h2,h3⟩ J hJ;obtain rfl|rfl|rfl|rfl:i=0∨i=1∨i=2∨i=3:=by omega
 ·simp(disch:=omega)only[go_sem];refine⟨fun h=>?_,fun h=>⟨fun h'=>?_,fun h'=>?_⟩⟩
  ·refine As _ ?_;exact .eq (by simp at h;simp[Bc,h])
  ·refine As _ ?_;exact .eq (by simp at h h';simp[Bc,h'];omega)
  ·refine hJ _ 1 ⟨by omega,fun _=>by simp at h h';omega,by omega,by omega⟩ (by omega) AT
 ·simp(disch:=omega)only[go_sem];refine⟨fun h=>?_,fun h=>⟨fun h'=>?_,fun h'=>?_⟩⟩
  ·refine As _ ?_;exact .eq (by simp at h;simp[Bc,h,h1])
  ·refine As _ ?_;exact .eq (by simp at h h';simp[Bc,h',h1];omega)
  ·refine hJ _ 2 ⟨by omega,fun _=>h1 (by omega),fun _=>by simp at h h';omega,by omega⟩ (by omega) AT
 ·simp(disch:=omega)only[go_sem];refine⟨fun h=>?_,fun h=>⟨fun h'=>?_,fun h'=>?_⟩⟩
  ·refine As _ ?_;exact .eq (by simp at h;simp[Bc,h,h1,h2])
  ·refine As _ ?_;exact .eq (by simp at h h';simp[Bc,h',h1,h2];omega)
  ·refine hJ _ 3 ⟨by omega,fun _=>h1 (by omega),fun _=>h2 (by omega),fun _=>by simp at h h';omega⟩ (by omega) AT
 ·simp(disch:=omega)only[go_sem];refine As _ ?_;exact .eq (by simp[Bc,h1,h2,h3])
def f61_ok(p q:Ab):Ad C0 61 [.agg p.c,.agg q.c] [] (I (Bc p q)) []:=by
 refine Ad.go f61 ?_;unfold f61;refine gO ?_;refine Ae (f112_ok p q) ?_;refine gO ?_;exact AQ _
def Lv(g:Int):Int:=if g<0∨1073741824≤g then 1 else g+1
def f263_ok(g:Int):Ad C0 263 [I g] [] (I (Lv g)) []:=by
 refine Ad.go f263 ?_;unfold f263;simp(disch:=omega)only[go_sem]
 repeat'(with_reducible refine And.intro (fun h=>?_) (fun h=>?_))
 all_goals(refine Cn _ ?_)
 all_goals(try simp(disch:=omega)only[go_sem])
 all_goals(refine .eq ?_)
 all_goals(first|(simp_all[Lv,IntKind.wrap,IntKind.signed,IntKind.bits]<;>omega)|(refine Bool.eq_iff_iff.2 ?_;simp_all[Lv,IntKind.wrap,IntKind.signed,IntKind.bits]<;>omega))
def Amt.zero(a:Amt):Bool:=a.mode==0&&a.Ax==0
def f264_ok(a:Amt):Ad C0 264 [.agg a.c] [] (B a.zero) []:=by
 refine Ad.go f264 ?_;unfold f264;simp(disch:=omega)only[go_sem]
 repeat'(with_reducible refine And.intro (fun h=>?_) (fun h=>?_))
 all_goals(refine Cn _ ?_)
 all_goals(try simp(disch:=omega)only[go_sem])
 all_goals(refine .eq ?_)
 all_goals(first|(simp_all[Amt.zero]<;>omega)|(refine Bool.eq_iff_iff.2 ?_;simp_all[Amt.zero]<;>omega))
def Res.shaped(r:Res):Bool:=if r.kind=1 then r.Ax==1 else if r.kind=2 then AI r.Ax 1 8 else false
def f306_ok(r:Res):Ad C0 306 [.agg r.c] [] (B r.shaped) []:=by
 refine Ad.go f306 ?_;unfold f306;simp(disch:=omega)only[go_sem]
 repeat'(with_reducible refine And.intro (fun h=>?_) (fun h=>?_))
 all_goals(refine Cn _ ?_)
 all_goals(try simp(disch:=omega)only[go_sem])
 all_goals(refine .eq ?_)
 all_goals(first|(simp_all[Res.shaped,AI]<;>omega)|(refine Bool.eq_iff_iff.2 ?_;simp_all[Res.shaped,AI]<;>omega))
def Bi(m:Int):Bool:=AI m 1 5
def f314_ok(m:Int):Ad C0 314 [I m] [] (B (Bi m)) []:=by
 refine Ad.go f314 ?_;unfold f314;simp(disch:=omega)only[go_sem]
 repeat'(with_reducible refine And.intro (fun h=>?_) (fun h=>?_))
 all_goals(refine Cn _ ?_)
 all_goals(try simp(disch:=omega)only[go_sem])
 all_goals(refine .eq ?_)
 all_goals(first|(simp_all[Bi,AI]<;>omega)|(refine Bool.eq_iff_iff.2 ?_;simp_all[Bi,AI]<;>omega))
def Res.fits(r:Res)(a:Amt):Bool:=r.shaped&&(if r.kind=1 then Bi a.mode&&a.Ax==0 else a.mode==0&&AI a.Ax 1 r.Ax)
def f281_ok(r:Res)(a:Amt):Ad C0 281 [.agg r.c,.agg a.c] [] (B (r.fits a)) []:=by
 refine Ad.go f281 ?_;unfold f281;simp(disch:=omega)only[go_sem]
 repeat'(first
  |(with_reducible refine And.intro (fun h=>?_) (fun h=>?_))
  |((with_reducible show AW _ _ 306 _ _ _);refine Ah (f306_ok r) ?_ rfl ?_;(focus(simp(disch:=omega)only[go_sem];done));try simp(disch:=omega)only[go_sem])
  |((with_reducible show AW _ _ 314 _ _ _);refine Ah (f314_ok a.mode) ?_ rfl ?_;(focus(simp(disch:=omega)only[go_sem];done));try simp(disch:=omega)only[go_sem]))
 all_goals(refine Cn _ ?_)
 all_goals(try simp(disch:=omega)only[go_sem])
 all_goals(refine .eq ?_)
 all_goals(first|(simp_all[Res.fits,AI]<;>omega)|(refine Bool.eq_iff_iff.2 ?_;simp_all[Res.fits,AI]<;>omega))
def Res.permits(r:Res)(a:Amt):Bool:=r.shaped&&(a.zero||r.fits a)
def f307_ok(r:Res)(a:Amt):Ad C0 307 [.agg r.c,.agg a.c] [] (B (r.permits a)) []:=by
 refine Ad.go f307 ?_;unfold f307;simp(disch:=omega)only[go_sem]
 repeat'(first
  |(with_reducible refine And.intro (fun h=>?_) (fun h=>?_))
  |((with_reducible show AW _ _ 306 _ _ _);refine Ah (f306_ok r) ?_ rfl ?_;(focus(simp(disch:=omega)only[go_sem];done));try simp(disch:=omega)only[go_sem])
  |((with_reducible show AW _ _ 264 _ _ _);refine Ah (f264_ok a) ?_ rfl ?_;(focus(simp(disch:=omega)only[go_sem];done));try simp(disch:=omega)only[go_sem])
  |((with_reducible show AW _ _ 281 _ _ _);refine Ah (f281_ok r a) ?_ rfl ?_;(focus(simp(disch:=omega)only[go_sem];done));try simp(disch:=omega)only[go_sem]))
 all_goals(refine Cn _ ?_)
 all_goals(try simp(disch:=omega)only[go_sem])
 all_goals(refine .eq ?_)
 all_goals(first|(simp_all[Res.permits]<;>omega)|(refine Bool.eq_iff_iff.2 ?_;simp_all[Res.permits]<;>omega))
def cov(m:Int):List Bool:=if m=5 then [false,true,true,true,true,true] else if m=4 then [false,true,true,true,true,false] else if m=2 then [false,true,true,false,false,false] else if m=1 then [false,true,false,false,false,false] else if m=3 then [false,true,false,true,false,false] else [false,false,false,false,false,false]
def f325_ok(m:Int):Ad C0 325 [I m] [] (.agg (CT (cov m))) []:=by
 refine Ad.go f325 ?_;unfold f325;simp(disch:=omega)only[go_sem]
 repeat'(first
  |(with_reducible refine And.intro (fun h=>?_) (fun h=>?_))
)
 all_goals(refine Cn _ ?_)
 all_goals(try simp(disch:=omega)only[go_sem])
 all_goals(refine .eq ?_)
 all_goals(first|(simp_all[cov,CT]<;>omega)|(refine Bool.eq_iff_iff.2 ?_;simp_all[cov,CT]<;>omega))
def A5(a b:Int):Bool:=Bi a&&Bi b&&(cov a).getD b.toNat false
def AN{m:Int}(h:Bi m=true):m=1∨m=2∨m=3∨m=4∨m=5:=by
 simp[Bi,AI]at h;omega
def cI(m:Int):(cov m).length=6:=by
 unfold cov
 repeat' split
 all_goals rfl
def f322_ok(a b:Int):Ad C0 322 [I a,I b] [] (B (A5 a b)) []:=by
 refine Ad.go f322 ?_;unfold f322;refine gO ?_;refine Ae (f314_ok a) ?_;refine gO ?_;refine⟨fun h=>?_,fun h=>?_⟩
 ·refine Ae (f314_ok b) ?_;refine gO ?_;refine And.intro (fun h'=>?_) (fun h'=>?_)
  ·have h1:=AN h';have hb:(b<6)=True:=by simp;omega
   have hb0:(0≤b)=True:=by simp;omega
   have hl:=cI a;refine Ah (y':=.agg (CT (cov a))) (f325_ok a) gI gI ?_;simp(disch:=omega)only[go_sem,hl,Od,hb,hb0,mul_one];refine As _ ?_;exact .eq (by simp[A5,h,h'])
  ·refine As _ ?_;exact .eq (by simp[A5,h,h'])
 ·refine As _ ?_;exact .eq (by simp[A5,h])
def BR(a b:Int):Bool:=Bi a&&Bi b&&cg.getD ((a-1)*5+(b-1)).toNat false
def f308_ok(a b:Int):Ad C0 308 [I a,I b] [] (B (BR a b)) []:=by
 refine Ad.go f308 ?_;unfold f308;refine gO ?_;refine Ae (f314_ok a) ?_;refine gO ?_;refine⟨fun h=>?_,fun h=>?_⟩
 ·refine Ae (f314_ok b) ?_;refine gO ?_;refine And.intro (fun h'=>?_) (fun h'=>?_)
  ·have h1:=AN h;have h2:=AN h';have ha:(a-1<5)=True:=by simp;omega
   have ha0:(0≤a-1)=True:=by simp;omega
   have hb:(b-1<5)=True:=by simp;omega
   have hb0:(0≤b-1)=True:=by simp;omega
   have hl:cg.length=25:=rfl;have hk:((a-1)*5+(b-1)).toNat=0+(a-1).toNat*5+(b-1).toNat*1:=by omega
   simp(disch:=omega)only[go_sem,tog,hl,Od,ha,ha0,hb,hb0,mul_one];refine As _ ?_;exact .eq (by simp[BR,h,h',hk])
  ·refine As _ ?_;exact .eq (by simp[BR,h,h'])
 ·refine As _ ?_;exact .eq (by simp[BR,h])
def Res.covers(r:Res)(a b:Amt):Bool:=r.permits a&&r.permits b&&(if a.zero||b.zero then b.zero else if r.kind=1 then A5 a.mode b.mode else decide (b.Ax≤a.Ax))
def f311_ok(r:Res)(a b:Amt):Ad C0 311 [.agg r.c,.agg a.c,.agg b.c] [] (B (r.covers a b)) []:=by
 refine Ad.go f311 ?_;unfold f311;simp(disch:=omega)only[go_sem]
 repeat'(first
  |(with_reducible refine And.intro (fun h=>?_) (fun h=>?_))
  |((with_reducible show AW _ _ 307 _ _ _);refine Ah (f307_ok r a) ?_ rfl ?_;(focus(simp(disch:=omega)only[go_sem];done));try simp(disch:=omega)only[go_sem])
  |((with_reducible show AW _ _ 307 _ _ _);refine Ah (f307_ok r b) ?_ rfl ?_;(focus(simp(disch:=omega)only[go_sem];done));try simp(disch:=omega)only[go_sem])
  |((with_reducible show AW _ _ 264 _ _ _);refine Ah (f264_ok a) ?_ rfl ?_;(focus(simp(disch:=omega)only[go_sem];done));try simp(disch:=omega)only[go_sem])
  |((with_reducible show AW _ _ 264 _ _ _);refine Ah (f264_ok b) ?_ rfl ?_;(focus(simp(disch:=omega)only[go_sem];done));try simp(disch:=omega)only[go_sem])
  |((with_reducible show AW _ _ 322 _ _ _);refine Ah (f322_ok a.mode b.mode) ?_ rfl ?_;(focus(simp(disch:=omega)only[go_sem];done));try simp(disch:=omega)only[go_sem]))
 all_goals(refine Cn _ ?_)
 all_goals(try simp(disch:=omega)only[go_sem])
 all_goals(refine .eq ?_)
 all_goals(first|(simp_all[Res.covers]<;>omega)|(refine Bool.eq_iff_iff.2 ?_;simp_all[Res.covers]<;>omega))
@[go_sem] theorem ko(p q:Ab):(p.site==q.site&&(p.inc==q.inc&&p.num==q.num))=decide (p=q):=by
 cases p;cases q;refine Bool.eq_iff_iff.2 ?_;simp
@[go_sem] theorem kB(p q:Amt):(p.mode==q.mode&&p.Ax==q.Ax)=decide (p=q):=by
 cases p;cases q;refine Bool.eq_iff_iff.2 ?_;simp
def At(l:List AK)(p:Ab):Amt:=match l.find? (fun h=>decide (h.proc=p)) with
 |some h=>h.amt
 |none=>⟨0,0⟩
def BW{α:Type}{f:α→Bool}{l:List α}{i:Nat}{b:α}(h:(l.take i).find? f=none)(hb:l[i]?=some b):(l.take (i+1)).find? f=if f b then some b else none:=by
 rw[tA,hb,List.find?_append,h];simp[List.find?]
def H2{α:Type}{f:α→Bool}{l:List α}{i:Nat}{b:α}(h:(l.take i).find? f=none)(hb:l[i]?=some b)(hf:f b=true):l.find? f=some b:=by
 have h1:=BW h hb;rw[hf]at h1
 conv=>lhs;rw[← List.take_append_drop (i+1) l]
 rw[List.find?_append,h1];rfl
def f321_ok(l:List AK)(p:Ab)(hl:l.length≤1000000):Ad C0 321 [AL l,.agg p.c] [] (.agg (At l p).c) []:=by
 refine Ad.go f321 ?_;unfold f321;refine gO ?_;refine Ac (α:=Nat) (fun i=>⟨[(9,I i),(8,I l.length),(7,AL l),(3,.ptr 192 0),(4,.ptr 256 0)],[(192,p.c),(256,(⟨0,0⟩:Amt).c)]⟩) (fun i=>i≤(l).length∧(l.take i).find? (fun h=>decide (h.proc=p))=none) (fun i=>(l).length-i) 0 ⟨by omega,rfl⟩ ?_ ?_
 ·exact B0
 rintro i ⟨hi,hP⟩ J hJ;refine gO ?_;refine gR (l:=l) hi (fun b hb hbm hlt=>?_) (fun hil=>?_);simp(disch:=omega)only[go_sem,gm,hb]
 ·refine⟨fun h=>?_,fun h=>?_⟩
  ·have e:At l p=b.amt:=by unfold At;rw[H2 hP hb (by simpa using h)]
   simp(disch:=omega)only[go_sem,e];exact AQ _
  ·refine hJ _ (i+1) ⟨by omega,(by rw[BW hP hb];simp at h;simp[h])⟩ (by omega) AT
 ·subst hil;rw[tL]at hP;have e:At l p=⟨0,0⟩:=by unfold At;rw[hP]
  simp(disch:=omega)only[go_sem,e];exact AQ _
def C9(l:List AK):List Ab:=l.map (·.proc)
def f309_ok(q:Queue)(p:Ab)(hl:q.holds.length≤1000000):Ad C0 309 [.agg q.c,.agg p.c] [] (.agg (At q.holds p).c) []:=by
 refine Ad.go f309 ?_;unfold f309;refine gO ?_;refine Ae (f321_ok q.holds p hl) ?_;refine gO ?_;exact AQ _
def Fv(l:List AP)(p:Ab):Int:=match l.findIdx? (fun h=>decide (h.proc=p)) with
 |some i=>i
 |none=>-1
def F8{α:Type}{f:α→Bool}{l:List α}{i:Nat}(h:(l.take i).find? f=none):∀ b,l[i]?=some b→f b=true→l.findIdx? f=some i:=by
 intro b hb hf;rw[List.findIdx?_eq_some_iff_getElem];have hi:i<l.length:=by
  rcases Nat.lt_or_ge i l.length with h|h
  ·exact h
  ·rw[List.getElem?_eq_none h]at hb;cases hb
 refine⟨hi,?_,fun j hj=>?_⟩
 ·rw[gE hi]at hb;injection hb with hb
  rw[hb];exact hf
 ·rw[List.find?_eq_none]at h;have:=h (l[j]) (by
   rw[List.mem_take_iff_getElem];exact⟨j,by omega,rfl⟩)
  simpa using this
def f310_ok(l:List AP)(p:Ab)(hl:l.length≤1000000):Ad C0 310 [Be l,.agg p.c] [] (I (Fv l p)) []:=by
 refine Ad.go f310 ?_;unfold f310;refine gO ?_;refine Ac (α:=Nat) (fun i=>⟨[(9,I i),(8,I l.length),(7,Be l),(3,.ptr 192 0)],[(192,p.c)]⟩) (fun i=>i≤(l).length∧(l.take i).find? (fun h=>decide (h.proc=p))=none) (fun i=>(l).length-i) 0 ⟨by omega,rfl⟩ ?_ ?_
 ·exact B0
 rintro i ⟨hi,hP⟩ J hJ;refine gO ?_;refine gR (l:=l) hi (fun b hb hbm hlt=>?_) (fun hil=>?_);simp(disch:=omega)only[go_sem,gm,hb]
 ·refine⟨fun h=>?_,fun h=>?_⟩
  ·have e:Fv l p=i:=by unfold Fv;rw[F8 hP b hb (by simpa using h)]
   simp(disch:=omega)only[go_sem,e];exact AQ _
  ·refine hJ _ (i+1) ⟨by omega,(by rw[BW hP hb];simp at h;simp[h])⟩ (by omega) AT
 ·subst hil;rw[tL]at hP;have e:Fv l p = -1:=by
   unfold Fv;have:l.findIdx? (fun h=>decide (h.proc=p))=none:=by
    rw[List.findIdx?_eq_none_iff];rw[List.find?_eq_none]at hP;intro x hx;simpa using hP x hx
   rw[this]
  simp(disch:=omega)only[go_sem,e];exact AQ _
def reserved(s:Bs):Bool:=s==[97,108,108]||s==[97,110,121]||s==[111,102]||s==[112,114,105,111]||s==[108,105,109,105,116]
def f313_ok(s:Bs):Ad C0 313 [.v (.string (str s))] [] (B (reserved s)) []:=by
 refine Ad.go f313 ?_;unfold f313;simp(disch:=omega)only[go_sem]
 repeat'(first
  |(with_reducible refine And.intro (fun h=>?_) (fun h=>?_))
)
 all_goals(refine Cn _ ?_)
 all_goals(try simp(disch:=omega)only[go_sem])
 all_goals(refine .eq ?_)
 all_goals(first|(simp_all[reserved]<;>omega)|(refine Bool.eq_iff_iff.2 ?_;simp_all[reserved]<;>omega))
@[go_sem] theorem jU(l:Bs)(i:Nat):(str l)[i]?=l[i]?:=by
 show (ByteArray.mk l.toArray)[i]?=l[i]?
 by_cases h:i<l.length
 ·have h1:i<(ByteArray.mk l.toArray).size:=h;rw[getElem?_pos _ i h1,getElem?_pos _ i h];rfl
 ·have h1:¬ i<(ByteArray.mk l.toArray).size:=h;rw[getElem?_neg _ i h1,getElem?_neg _ i h]
def letter(c:UInt8):Bool:=decide (97≤(c.toNat:Int))&&decide ((c.toNat:Int)≤122)
def other(c:UInt8):Bool:=decide (48≤(c.toNat:Int))&&decide ((c.toNat:Int)≤57)||(c.toNat:Int)==95||(c.toNat:Int)==45
def okc(i:Nat)(c:UInt8):Bool:=letter c||(!decide (i=0)&&other c)
def Ca{α:Type}(f:Nat→α→Bool)(l:List α):Bool:=l.zipIdx.all fun x=>f x.2 x.1
def Cr{α:Type}{f:Nat→α→Bool}{l:List α}{i:Nat}{b:α}(hb:l[i]?=some b):Ca f (l.take (i+1))=(Ca f (l.take i)&&f i b):=by
 have hi:i<l.length:=by
  rcases Nat.lt_or_ge i l.length with h|h
  ·exact h
  ·rw[List.getElem?_eq_none h]at hb;cases hb
 simp only[Ca,tA,hb,Option.toList_some,List.zipIdx_append,all_append,List.length_take];simp[Nat.min_eq_left (Nat.le_of_lt hi)]
def BI{α:Type}{f:Nat→α→Bool}{l:List α}{i:Nat}{b:α}(hb:l[i]?=some b)(h:f i b=false):Ca f l=false:=by
 unfold Ca;rw[all_eq_false];refine⟨(b,i),?_,by simp[h]⟩;rw[List.mk_mem_zipIdx_iff_getElem?];exact hb
def BM(s:Bs):Bool:=decide (1≤s.length)&&decide (s.length≤12)&&!reserved s&&Ca okc s
def f280_ok(s:Bs):Ad C0 280 [.v (.string (str s))] [] (B (BM s)) []:=by
 refine Ad.go f280 ?_;unfold f280
 by_cases h1:s.length<1
 ·have e1:((s.length:Int)<1)=True:=by simp;omega
  simp(disch:=omega)only[go_sem,e1];refine As _ ?_;exact .eq (by simp[BM];omega)
 by_cases h2:12<s.length
 ·have e1:((s.length:Int)<1)=False:=by simp;omega
  have e2:(12<(s.length:Int))=True:=by simp;omega
  simp(disch:=omega)only[go_sem,e1,e2,decide_false];refine As _ ?_;exact .eq (by simp[BM];omega)
 have e1:((s.length:Int)<1)=False:=by simp;omega
 have e2:(12<(s.length:Int))=False:=by simp;omega
 simp(disch:=omega)only[go_sem,e1,e2,decide_false];refine Ae (f313_ok s) ?_;refine gO ?_;refine⟨fun h=>?_,fun h=>?_⟩
 ·refine As _ ?_;exact .eq (by simp[BM,h])
 refine Ac (α:=Nat) (fun i=>⟨[(21,I i),(20,I s.length),(0,.v (.string (str s)))],[]⟩) (fun i=>i≤(s).length∧Ca okc (s.take i)=true) (fun i=>(s).length-i) 0 ⟨by omega,rfl⟩ ?_ ?_
 ·exact B0
 rintro i ⟨hi,hP⟩ J hJ;refine gO ?_;refine gR (l:=s) hi (fun b hb hbm hlt=>?_) (fun hil=>?_);simp(disch:=omega)only[go_sem,gm,hb]
 ·repeat'(with_reducible refine And.intro (fun h=>?_) (fun h=>?_))
  all_goals(first
   | refine hJ _ (i+1) ⟨by omega,by rw[Cr hb,hP];simp_all[okc,letter,other]⟩ (by omega) AT
   |(have hz:okc i b=false:=by(simp_all[okc,letter,other]<;>omega)
     have e:BM s=false:=by simp[BM,BI hb hz]
     refine Bd ⟨[],[],[]⟩ _ rfl ⟨rfl,rfl⟩ (by simp) ?_ trivial;simp(disch:=omega)only[go_sem,e]))
 ·subst hil;rw[tL]at hP;have e:BM s=true:=by simp[BM,hP,h];omega
  simp(disch:=omega)only[go_sem,e];exact AQ _
def f276_ok(r:Res):Ad C0 276 [.agg r.c] [] (B (BM r.name&&r.shaped&&AI r.home 0 3)) []:=by
 refine Ad.go f276 ?_;unfold f276;simp(disch:=omega)only[go_sem]
 repeat'(first
  |(with_reducible refine And.intro (fun h=>?_) (fun h=>?_))
  |((with_reducible show AW _ _ 280 _ _ _);refine Ah (f280_ok r.name) ?_ rfl ?_;(focus(simp(disch:=omega)only[go_sem];done));try simp(disch:=omega)only[go_sem])
  |((with_reducible show AW _ _ 306 _ _ _);refine Ah (f306_ok r) ?_ rfl ?_;(focus(simp(disch:=omega)only[go_sem];done));try simp(disch:=omega)only[go_sem]))
 all_goals(refine Cn _ ?_)
 all_goals(try simp(disch:=omega)only[go_sem])
 all_goals(refine .eq ?_)
 all_goals(first|(simp_all[AI]<;>omega)|(refine Bool.eq_iff_iff.2 ?_;simp_all[AI]<;>omega))
def Hs:Res:=⟨[],1,1,0⟩
def Hy:Res:=⟨[],2,8,0⟩
def AP.ok(w:AP):Bool:=w.proc.ok&&(Hs.fits w.amt||Hy.fits w.amt)&&AI w.prio 0 7&&AI w.CQ 0 3
def f323_ok(w:AP):Ad C0 323 [.agg w.c] [] (B w.ok) []:=by
 refine Ad.go f323 ?_;unfold f323;simp(disch:=omega)only[go_sem]
 repeat'(first
  |(with_reducible refine And.intro (fun h=>?_) (fun h=>?_))
  |((with_reducible show AW _ _ 102 _ _ _);refine Ah (f102_ok w.proc) ?_ rfl ?_;(focus(simp(disch:=omega)only[go_sem];done));try simp(disch:=omega)only[go_sem])
  |((with_reducible show AW _ _ 281 _ _ _);refine Ah (f281_ok ⟨[],1,1,0⟩ w.amt) ?_ rfl ?_;(focus(simp(disch:=omega)only[go_sem];done));try simp(disch:=omega)only[go_sem])
  |((with_reducible show AW _ _ 281 _ _ _);refine Ah (f281_ok ⟨[],2,8,0⟩ w.amt) ?_ rfl ?_;(focus(simp(disch:=omega)only[go_sem];done));try simp(disch:=omega)only[go_sem]))
 all_goals(refine Cn _ ?_)
 all_goals(try simp(disch:=omega)only[go_sem])
 all_goals(refine .eq ?_)
 all_goals(first|(simp_all[AP.ok,AI,Hs,Hy]<;>omega)|(refine Bool.eq_iff_iff.2 ?_;simp_all[AP.ok,AI,Hs,Hy]<;>omega))
def Fk(l:List AP)(i:Nat)(w:AP):Bool:=w.ok&&decide (Fv l w.proc=(i:Int))
def Dr(l:List AP):Bool:=decide (l.length≤8)&&Ca (Fk l) l
def f312_ok(l:List AP):Ad C0 312 [Be l] [] (B (Dr l)) []:=by
 refine Ad.go f312 ?_;unfold f312
 by_cases h1:8<l.length
 ·have e1:(8<(l.length:Int))=True:=by simp;omega
  simp(disch:=omega)only[go_sem,e1];refine As _ ?_;exact .eq (by simp[Dr];omega)
 have e1:(8<(l.length:Int))=False:=by simp;omega
 simp(disch:=omega)only[go_sem,e1,decide_false];refine Ac (α:=Nat) (fun i=>⟨[(10,I i),(9,I l.length),(8,Be l),(0,Be l)],[]⟩) (fun i=>i≤(l).length∧Ca (Fk l) (l.take i)=true) (fun i=>(l).length-i) 0 ⟨by omega,rfl⟩ ?_ ?_
 ·exact B0
 rintro i ⟨hi,hP⟩ J hJ;refine gO ?_;refine gR (l:=l) hi (fun b hb hbm hlt=>?_) (fun hil=>?_);simp(disch:=omega)only[go_sem,gm,hb]
 ·refine Ae (f323_ok b) ?_;cases hw:b.ok
  ·have e:Dr l=false:=by simp[Dr,BI hb (show Fk l i b=false by simp[Fk,hw])]
   simp(disch:=omega)only[go_sem,zF,e];exact AQ _
  simp(disch:=omega)only[go_sem,zT];refine Ae (f310_ok l b.proc (by omega)) ?_;refine gO ?_;refine⟨fun h=>?_,fun h=>?_⟩
  ·have e:Dr l=false:=by simp[Dr,BI hb (show Fk l i b=false by simp at h;simp[Fk,h])]
   simp(disch:=omega)only[go_sem,e];exact AQ _
  ·refine hJ _ (i+1) ⟨by omega,(by rw[Cr hb,hP];simp at h;simp[Fk,hw,h])⟩ (by omega) AT
 ·subst hil;rw[tL]at hP;have e:Dr l=true:=by simp[Dr,hP];omega
  simp(disch:=omega)only[go_sem,e];exact AQ _
def AZ(l:List AP)(p:Ab):List AP:=l.filter fun w=>decide (w.proc≠p)
def f205_ok(l:List AP)(p:Ab)(hl:l.length≤1000000):Ad C0 205 [Be l,.agg p.c] [] (.tup [Be (AZ l p),B (decide ((AZ l p).length<l.length))]) []:=by
 refine Ad.go f205 ?_;unfold f205;refine gO ?_;refine Ac (α:=Nat) (fun i=>⟨[(11,I i),(10,I l.length),(9,Be l),(0,Be l),(3,.ptr 192 0),(6,.sl (.own 1408 0) 7 ((AZ (l.take i) p).map AP.c))],[(192,p.c)]⟩) (fun i=>i≤(l).length∧(AZ (l.take i) p).length≤i) (fun i=>(l).length-i) 0 ⟨by omega,(by simp[AZ])⟩ ?_ ?_
 ·exact B0
 rintro i ⟨hi,hP⟩ J hJ;refine gO ?_;refine gR (l:=l) hi (fun b hb hbm hlt=>?_) (fun hil=>?_);simp(disch:=omega)only[go_sem,gm,hb]
 ·refine⟨fun h=>?_,fun h=>?_⟩
  ·refine hJ _ (i+1) ⟨by omega,?_⟩ (by omega) (Imp.Ar ?_ gI)
   ·simp at h;simp[AZ,tA,hb,h];simp[AZ]at hP;omega
   ·simp(disch:=omega)only[go_sem];exact .sl (by simp at h;simp[AZ,tA,hb,h,AP.c])
  ·refine hJ _ (i+1) ⟨by omega,?_⟩ (by omega) (Imp.Ar ?_ gI)
   ·simp at h;simp[AZ,tA,hb,h];simp[AZ]at hP;omega
   ·simp(disch:=omega)only[go_sem];exact .sl (by simp at h;simp[AZ,tA,hb,h])
 ·subst hil;rw[tL]at hP;refine Bd ⟨[],[],[1408]⟩ _ rfl ⟨rfl,rfl⟩ (by simp) ?_ trivial;simp(disch:=omega)only[go_sem,tL];exact .eq (by simp)
def YN(l:List Bool)(n:Nat)(h:l.length=n):(CT l).take n=CT l:=List.take_of_length_le (by simp[CT,h])
def YO(l:List Bool)(k:Nat)(x:Bool)(h:k<l.length):(CT l).take k++[.v (.bool x)]++(CT l).drop (k+1)=CT (l.set k x):=by
 rw[List.set_eq_take_append_cons_drop,if_pos h];simp[CT]
def Eu(seen:List Bool)(m:Int):Bool:=(List.range 6).all fun k=>!seen.getD k false||BR k m
def BF(r:Res):List Amt→Int→List Bool→Bool
 |[],_,_=>true
 | a::l,s,seen=>r.permits a&&!decide (r.Ax<s+a.Ax)&&(if a.mode=0 then BF r l (s+a.Ax) seen else Eu seen a.mode&&BF r l (s+a.Ax) (seen.set a.mode.toNat true))
def no6:List Bool:=[false,false,false,false,false,false]
def Res.compat(r:Res)(l:List Amt):Bool:=r.shaped&&BF r l 0 no6
def KD{r:Res}(h:r.shaped=true):1≤r.Ax∧r.Ax≤8:=by
 simp only[Res.shaped]at h;split at h
 ·simp at h;omega
 ·split at h
  ·simp[AI]at h;omega
  ·cases h
def I6{r:Res}{a:Amt}(h:r.permits a=true):0≤a.Ax∧a.Ax≤8∧(a.mode=0∨Bi a.mode=true):=by
 simp only[Res.permits,and_eq_true,or_eq_true]at h;obtain⟨h1,h2|h2⟩:=h
 ·simp[Amt.zero]at h2;omega
 ·simp only[Res.fits,and_eq_true]at h2;obtain⟨_,h3⟩:=h2;split at h3
  ·simp at h3;obtain⟨h3,h4⟩:=h3;exact⟨by omega,by omega,.inr h3⟩
  ·simp[AI]at h3;have:=KD h1;omega
def f272_ok(r:Res)(l:List Amt)(hl:l.length≤1000000):Ad C0 272 [.agg r.c,Pd l] [] (B (r.compat l)) []:=by
 refine Ad.go f272 ?_;unfold f272;refine gO ?_;refine Ae (f306_ok r) ?_;cases hs:r.shaped
 ·have e:r.compat l=false:=by simp[Res.compat,hs]
  simp(disch:=omega)only[go_sem,zF,e];exact AQ _
 obtain⟨hu1,hu2⟩:=KD hs;have hcomp:r.compat l=BF r l 0 no6:=by simp[Res.compat,hs]
 simp(disch:=omega)only[go_sem,zT];refine Ac (α:=Nat × Int × List Bool) (fun q=>⟨[(17,I q.1),(16,I l.length),(15,Pd l),(7,I q.2.1),(6,.ptr 384 0),(5,B true),(2,.ptr 128 0)],[(384,CT q.2.2),(128,r.c)]⟩)
  (fun q=>q.1≤l.length∧q.2.2.length=6∧0≤q.2.1∧q.2.1≤8∧BF r (l.drop q.1) q.2.1 q.2.2=BF r l 0 no6) (fun q=>l.length-q.1) (0,0,no6) ⟨by simp,rfl,by simp,by simp,by simp⟩ ?_ ?_
 ·refine Imp.Ar ?_ ?_
  ·exact gI
  ·simp(disch:=omega)only[go_sem,CT,no6]
 rintro⟨i,sum,seen⟩ ⟨hi,hsl,hs0,hs8,hc⟩ J hJ
 replace hi:i≤l.length:=hi
 replace hsl:seen.length=6:=hsl
 replace hs0:0≤sum:=hs0
 replace hs8:sum≤8:=hs8
 replace hc:BF r (l.drop i) sum seen=BF r l 0 no6:=hc
 refine gO ?_;refine ⟨fun hlt=>?_,fun hge=>?_⟩
 ·have hlt':i<l.length:=by simp at hlt;omega
  obtain⟨b,hb⟩:∃ b,l[i]?=some b:=⟨_,gE hlt'⟩;have hd:l.drop i=b::l.drop (i+1):=by
   rw[drop_eq_getElem_cons hlt'];rw[gE hlt']at hb;injection hb with hb
   rw[hb]
  rw[hd]at hc;simp only[BF]at hc;simp(disch:=omega)only[go_sem,gm,hb];refine Ae (f307_ok r b) ?_;cases hp:r.permits b
  ·have e:r.compat l=false:=by rw[hcomp,← hc,hp];rfl
   simp(disch:=omega)only[go_sem,zF,e];exact AQ _
  obtain⟨hb0,hb8,hbm⟩:=I6 hp
  by_cases hgt:r.Ax<sum+b.Ax
  ·have e:r.compat l=false:=by rw[hcomp,← hc,hp];simp[hgt]
   simp(disch:=omega)only[go_sem,zT,e,hgt];exact AQ _
  rw[hp]at hc
  by_cases hm:b.mode=0
  ·have hm':(b.mode==0)=true:=by simp[hm]
   simp(disch:=omega)only[go_sem,zT,hgt,decide_false,hm'];refine hJ _ (i+1,sum+b.Ax,seen) ⟨by simp;omega,hsl,by simp;omega,by simp;omega,?_⟩ (by simp;omega) AT;simpa [hgt,hm]using hc
  have hm':(b.mode==0)=false:=by simp[hm]
  have hmo:Bi b.mode=true:=by
   rcases hbm with h|h
   ·exact absurd h hm
   ·exact h
  have hmc:=AN hmo;have hcs:(Eu seen b.mode&&BF r (l.drop (i+1)) (sum+b.Ax) (seen.set b.mode.toNat true))=BF r l 0 no6:=by simpa [hgt,hm]using hc
  simp(disch:=omega)only[go_sem,zT,hgt,decide_false,hm',hsl,YN];refine Ac (α:=Nat) (fun k=>⟨[(42,I k),(41,.agg (CT seen)),(9,.ptr 576 0),(17,I i),(16,I l.length),(15,Pd l),(7,I (sum+b.Ax)),(6,.ptr 384 0),(5,B true),(2,.ptr 128 0)],[(576,b.c),(384,CT seen),(128,r.c)]⟩)
   (fun k=>k≤6∧(List.range k).all (fun j=>!seen.getD j false||BR j b.mode)=true) (fun k=>6-k) 0 ⟨by omega,rfl⟩ ?_ ?_
  ·refine Imp.Ar ?_ ?_
   ·exact gI
   ·exact gI
  rintro k ⟨hk,hka⟩ J2 hJ2
  by_cases hk6:k<6
  ·have hk6':((k:Int)<6)=True:=by simp;omega
   have hno:seen.getD k false=true→BR k b.mode=false→r.compat l=false:=fun h1 h2=>by
    have:Eu seen b.mode=false:=by
     unfold Eu;rw[all_eq_false];exact⟨k,List.mem_range.2 (by omega),by rw[h1,h2];decide⟩
    rw[hcomp,← hcs,this];rfl
   have hyes:(!seen.getD k false||BR k b.mode)=true→(List.range (k+1)).all (fun j=>!seen.getD j false||BR j b.mode)=true:=fun h=>by
    rw[List.range_succ,all_append,hka];simpa using h
   simp(disch:=omega)only[go_sem,hk6',hsl,Od,mul_one];refine⟨fun h=>?_,fun h=>?_⟩
   ·refine Ae (f308_ok k b.mode) ?_;cases hcm:BR k b.mode
    ·simp(disch:=omega)only[go_sem,zF,hno h hcm];exact AQ _
    ·simp(disch:=omega)only[go_sem,zT];refine hJ2 _ (k+1) ⟨by omega,hyes (by rw[hcm];simp)⟩ (by omega) AT
   ·refine hJ2 _ (k+1) ⟨by omega,hyes (by rw[h];rfl)⟩ (by omega) AT
  ·have hk6':((k:Int)<6)=False:=by simp;omega
   have hke:k=6:=by omega
   subst hke;have hso:Eu seen b.mode=true:=hka;rw[hso]at hcs;have hm6:(b.mode<6)=True:=by simp;omega
   have hm0:(0≤b.mode)=True:=by simp;omega
   simp(disch:=omega)only[go_sem,hk6',decide_false,hm6,hm0,hsl,mul_one,YO];refine hJ _ (i+1,sum+b.Ax,seen.set b.mode.toNat true) ⟨by simp;omega,by simp[hsl],by simp;omega,by simp;omega,by simpa using hcs⟩ (by simp;omega) AT
 ·have hil:i=l.length:=by simp at hge;omega
  subst hil;rw[drop_length]at hc;have e:r.compat l=true:=by rw[hcomp,← hc];rfl
  simp(disch:=omega)only[go_sem,e];exact AQ _
def p0:Ab:=⟨0,0,0⟩
def h0:AK:=⟨⟨0,0,0⟩,⟨0,0⟩⟩
def Ej(r:Res)(l:List AK)(i:Nat)(h:AK):Bool:=h.proc.ok&&r.fits h.amt&&(decide (i=0)||decide (Bc (l.getD (i-1) h0).proc h.proc<0))
def Bf(r:Res)(l:List AK):Bool:=r.shaped&&decide (l.length≤8)&&Ca (Ej r l) l&&r.compat (l.map (·.amt))
def f277_ok(r:Res)(l:List AK):Ad C0 277 [.agg r.c,AL l] [] (B (Bf r l)) []:=by
 refine Ad.go f277 ?_;unfold f277;refine gO ?_;refine Ae (f306_ok r) ?_;cases hs:r.shaped
 ·have e:Bf r l=false:=by simp[Bf,hs]
  simp(disch:=omega)only[go_sem,zF,e];exact AQ _
 by_cases h8:8<l.length
 ·have e1:(8<(l.length:Int))=True:=by simp;omega
  have e:Bf r l=false:=by simp[Bf];omega
  simp(disch:=omega)only[go_sem,zT,e1,e];exact AQ _
 have e1:(8<(l.length:Int))=False:=by simp;omega
 simp(disch:=omega)only[go_sem,zT,e1,decide_false];refine Ac (α:=Nat) (fun i=>⟨[(18,I i),(17,I l.length),(16,AL l),(1,AL l),(2,.ptr 128 0),(5,.sl (.own 3328 0) 2 ((l.take i).map fun h=>h.amt.c))],[(128,r.c)]⟩) (fun i=>i≤(l).length∧Ca (Ej r l) (l.take i)=true) (fun i=>(l).length-i) 0 ⟨by omega,rfl⟩ ?_ ?_
 ·exact B0
 rintro i ⟨hi,hP⟩ J hJ;refine gO ?_;refine gR (l:=l) hi (fun b hb hbm hlt=>?_) (fun hil=>?_);simp(disch:=omega)only[go_sem,gm,hb]
 ·refine Ae (f102_ok b.proc) ?_;have bad:Ej r l i b=false→Bf r l=false:=fun h=>by simp[Bf,BI hb h]
  cases hp:b.proc.ok
  ·simp(disch:=omega)only[go_sem,zF,bad (by simp[Ej,hp])];exact AQ _
  simp(disch:=omega)only[go_sem,zT];refine Ae (f281_ok r b.amt) ?_;cases hf:r.fits b.amt
  ·simp(disch:=omega)only[go_sem,zF,bad (by simp[Ej,hf])];exact AQ _
  simp(disch:=omega)only[go_sem,zT];refine Aw 11 [([],[6]),([],[34]),([],[35]),([],[1,36]),([],[6,36]),([],[38,36]),([],[37,39,36]),([],[40,36]),([],[41,36]),([],[7,36]),([],[43,36])] fol ?_;have good:(decide (i=0)||decide (Bc (l.getD (i-1) h0).proc b.proc<0))=true→Ca (Ej r l) (l.take (i+1))=true:=fun h=>by
   rw[Cr hb,hP];simp only[Ej,hp,hf,h];rfl
  by_cases hi0:i=0
  ·subst hi0;refine gO ?_;refine hJ _ 1 ⟨by omega,good (by simp)⟩ (by omega) (Imp.Ar ?_ gI);refine gO ?_;exact .sl (by simp[List.take_one,List.head?_eq_getElem?,hb,Amt.c])
  ·have hi1:(0<(i:Int))=True:=by simp;omega
   have hi2:((i:Int)-1)=((i-1:Nat):Int):=by omega
   obtain⟨a,ha⟩:∃ a,l[i-1]?=some a:=⟨_,gE (by omega)⟩;have had:l.getD (i-1) h0=a:=by simp[List.getD,ha]
   simp(disch:=omega)only[go_sem,hi1,hi2,gm,ha];refine Ae (f61_ok a.proc b.proc) ?_;refine gO ?_
   by_cases hc:0≤Bc a.proc b.proc
   ·have e:Bf r l=false:=bad (by simp only[Ej,had];simp[hi0];omega);simp(disch:=omega)only[go_sem,hc,e];exact AQ _
   ·simp(disch:=omega)only[go_sem,hc,decide_false];refine hJ _ (i+1) ⟨by omega,good (by rw[had];simp;omega)⟩ (by omega) (Imp.Ar ?_ gI);refine gO ?_;exact .sl (by simp[tA,hb,Amt.c])
 ·subst hil;rw[tL]at hP;have ee:Bf r l=r.compat (l.map (·.amt)):=by simp[Bf,hs,hP];omega
  refine Dd [3328] (f272_ok r (l.map (·.amt)) (by simp;omega)) ?_ rfl trivial ?_
  ·simp(disch:=omega)only[go_sem,tL];exact .sl (by simp[Amt.c])
  rw[ee];refine gO ?_;exact AQ _
def f271_ok(r:Res)(l:List AK)(p:Ab)(a:Amt):Ad C0 271 [.agg r.c,AL l,.agg p.c,.agg a.c] [] (B (Bf r l&&p.ok&&r.fits a)) []:=by
 refine Ad.go f271 ?_;unfold f271;simp(disch:=omega)only[go_sem]
 repeat'(first
  |(with_reducible refine And.intro (fun h=>?_) (fun h=>?_))
  |((with_reducible show AW _ _ 277 _ _ _);refine Ah (f277_ok r l) ?_ rfl ?_;(focus(simp(disch:=omega)only[go_sem];done));try simp(disch:=omega)only[go_sem])
  |((with_reducible show AW _ _ 102 _ _ _);refine Ah (f102_ok p) ?_ rfl ?_;(focus(simp(disch:=omega)only[go_sem];done));try simp(disch:=omega)only[go_sem])
  |((with_reducible show AW _ _ 281 _ _ _);refine Ah (f281_ok r a) ?_ rfl ?_;(focus(simp(disch:=omega)only[go_sem];done));try simp(disch:=omega)only[go_sem]))
 all_goals(refine Cn _ ?_)
 all_goals(try simp(disch:=omega)only[go_sem])
 all_goals(refine .eq ?_)
 all_goals(first|(simp_all[]<;>omega)|(refine Bool.eq_iff_iff.2 ?_;simp_all[]<;>omega))
def w0:AP:=⟨⟨0,0,0⟩,⟨0,0⟩,0,0⟩
def Bk(q:Queue):Option AP:=match q.Ao++q.waits with
 | w::_=>some w
 |[]=>none
def f237_ok(q:Queue):Ad C0 237 [.agg q.c] [] (.tup [.agg ((Bk q).getD w0).c,B (Bk q).isSome]) []:=by
 refine Ad.go f237 ?_;unfold f237
 match hq:q.Ao,hw:q.waits with
 | w::l,_ =>
  have e:Bk q=some w:=by simp[Bk,hq]
  have e1:(0<(l.length:Int)+1)=True:=by simp
  simp(disch:=omega)only[go_sem,hq,e,e1,isSome_some];exact AQ _
 |[],w::l =>
  have e:Bk q=some w:=by simp[Bk,hq,hw]
  have e1:(0<(l.length:Int)+1)=True:=by simp
  simp(disch:=omega)only[go_sem,hq,hw,e,e1,isSome_some];exact AQ _
 |[],[] =>
  have e:Bk q=none:=by simp[Bk,hq,hw]
  simp(disch:=omega)only[go_sem,hq,hw,e,isSome_none,w0];exact AQ _
def f200_ok(q:Queue)(h1:q.holds.length≤1000000)(h2:q.Ao.length≤1000000)(h3:q.waits.length≤1000000):Ad C0 200 [.agg q.c] [] (.agg q.c) []:=by
 refine Ad.go f200 ?_;unfold f200;refine gO ?_;refine CL ⟨[],[],[320,576,832]⟩ _ ?_;simp(disch:=omega)only[go_sem,AL]
def f240_ok(a:Atom):Ad C0 240 [.agg a.c] [] (B (BM a.name&&(Hs.fits a.amt||Hy.fits a.amt))) []:=by
 refine Ad.go f240 ?_;unfold f240;simp(disch:=omega)only[go_sem]
 repeat'(first
  |(with_reducible refine And.intro (fun h=>?_) (fun h=>?_))
  |((with_reducible show AW _ _ 280 _ _ _);refine Ah (f280_ok a.name) ?_ rfl ?_;(focus(simp(disch:=omega)only[go_sem];done));try simp(disch:=omega)only[go_sem])
  |((with_reducible show AW _ _ 281 _ _ _);refine Ah (f281_ok ⟨[],1,1,0⟩ a.amt) ?_ rfl ?_;(focus(simp(disch:=omega)only[go_sem];done));try simp(disch:=omega)only[go_sem])
  |((with_reducible show AW _ _ 281 _ _ _);refine Ah (f281_ok ⟨[],2,8,0⟩ a.amt) ?_ rfl ?_;(focus(simp(disch:=omega)only[go_sem];done));try simp(disch:=omega)only[go_sem]))
 all_goals(refine Cn _ ?_)
 all_goals(try simp(disch:=omega)only[go_sem])
 all_goals(refine .eq ?_)
 all_goals(first|(simp_all[Hs,Hy]<;>omega)|(refine Bool.eq_iff_iff.2 ?_;simp_all[Hs,Hy]<;>omega))
mutual
def meas:Expr→Int→Int→Int × Int
 |.mk _ _ kids,lv,n=>if 4<lv∨24<n+1 then (0,n+1) else Fl kids lv (n+1) 0
def Fl:List Expr→Int→Int→Int→Int × Int
 |[],_,n,d=>(d+1,n)
 | e::l,lv,n,d=>if (meas e (lv+1) n).1=0 then (0,(meas e (lv+1) n).2) else Fl l lv (meas e (lv+1) n).2 (max d (meas e (lv+1) n).1)
end
def JK(e:Expr)(lv n:Int):meas e lv n=if 4<lv∨24<n+1 then (0,n+1) else Fl e.kids lv (n+1) 0:=by
 cases e;simp[meas,Expr.kids]
def DB{e k:Expr}(h:k∈e.kids):SizeOf.sizeOf k<SizeOf.sizeOf e:=by
 cases e with
 | mk a b l =>
  have h:k∈l:=h;have:=List.sizeOf_lt_of_mem h;simp;omega
def bd(lv:Int)(x:Int × Int):Prop:=0≤x.1∧x.1≤6-lv∧0≤x.2∧x.2≤25∧(x.1≠0→x.2≤24)
def VP(lv:Int)(h1:1≤lv)(h4:lv≤4):∀ (l:List Expr) (n d:Int),(∀ e∈l,∀ n:Int,0≤n→n≤24→bd (lv+1) (meas e (lv+1) n))→0≤n→n≤24→0≤d→d≤5-lv→bd lv (Fl l lv n d)
 |[],n,d,_,hn,hn2,hd,hd2=>by
  simp only[Fl,bd];omega
 | e::l,n,d,hk,hn,hn2,hd,hd2=>by
  obtain⟨b1,b2,b3,b4,b5⟩:=hk e (by simp) n hn hn2;simp only[Fl];split
  ·simp only[bd];omega
  ·rename_i h0;have:=b5 h0;exact VP lv h1 h4 l _ _ (fun e' he=>hk e' (by simp[he])) b3 this (by omega) (by omega)
def L3:∀ (N:Nat) (e:Expr),SizeOf.sizeOf e<N→∀ lv n:Int,1≤lv→lv≤5→0≤n→n≤24→bd lv (meas e lv n)
 | 0,_,h,_,_,_,_,_,_=>by omega
 | N+1,e,h,lv,n,h1,h5,h2,h3=>by
  rw[JK];split
  ·simp only[bd];omega
  ·rename_i hc;exact VP lv h1 (by omega) _ _ _ (fun e' he n' hn hn2=>L3 N e' (by have:=DB he;omega) _ _ (by omega) (by omega) hn hn2) (by omega) (by omega) (by omega) (by omega)
def f239_ok:∀ (N:Nat) (e:Expr),SizeOf.sizeOf e<N→∀ lv n:Int,1≤lv→lv≤5→0≤n→n≤24 →
 Ad C0 239 [.agg e.c,I lv,.ptr 63 0] [(63,[I n])] (I (meas e lv n).1) [(63,[I (meas e lv n).2])]
 | 0,_,h,_,_,_,_,_,_=>by omega
 | N+1,e,h,lv,n,h1,h5,h2,h3=>by
  refine Ad.lens f239 fun hlen=>?_
  simp only[ED,lens,Expr.BV,length_map,and_true,true_and]at hlen;refine Ad.go f239 ?_;unfold f239
  by_cases hc:4<lv∨24<n+1
  ·have em:meas e lv n=(0,n+1):=by rw[JK,if_pos hc]
   simp(disch:=omega)only[go_sem,em]
   repeat'(with_reducible refine And.intro (fun h=>?_) (fun h=>?_))
   all_goals(try(exfalso;simp_all;omega))
   all_goals(refine Bd ⟨[],[(63,63)],[]⟩ _ rfl ⟨rfl,rfl⟩ (by simp[lk]) ?_ ?_)
   all_goals simp(disch:=omega)only[go_sem]
  have em:meas e lv n=Fl e.kids lv (n+1) 0:=by rw[JK,if_neg hc]
  have hc1:(4<lv)=False:=by simp;omega
  have hc2:(24<n+1)=False:=by simp;omega
  simp(disch:=omega)only[go_sem,em,hc1,hc2,decide_false];refine Ac (α:=Nat × Int × Int) (fun q=>⟨[(27,I q.1),(26,I e.kids.length),(25,Fa e.kids),(7,I q.2.2),(1,I lv),(2,.ptr 63 0)],[(63,[I q.2.1])]⟩)
   (fun q=>q.1≤e.kids.length∧0≤q.2.1∧q.2.1≤24∧0≤q.2.2∧q.2.2≤5-lv∧Fl (e.kids.drop q.1) lv q.2.1 q.2.2=Fl e.kids lv (n+1) 0) (fun q=>e.kids.length-q.1) (0,n+1,0) ⟨by simp,by simp;omega,by simp;omega,by simp,by simp;omega,by simp⟩ ?_ ?_
  ·refine Imp.Ar ?_ ?_
   ·exact gI
   ·exact gI
  rintro⟨i,m,d⟩ ⟨hi,hm0,hm,hd0,hd,hr⟩ J hJ
  replace hi:i≤e.kids.length:=hi
  replace hm0:0≤m:=hm0
  replace hm:m≤24:=hm
  replace hd0:0≤d:=hd0
  replace hd:d≤5-lv:=hd
  replace hr:Fl (e.kids.drop i) lv m d=Fl e.kids lv (n+1) 0:=hr
  refine gO ?_;refine ⟨fun hlt=>?_,fun hge=>?_⟩
  ·have hlt':i<e.kids.length:=by simp at hlt;omega
   have hb:e.kids[i]?=some e.kids[i]:=gE hlt';have hsz:=DB (List.getElem_mem hlt');have hdr:e.kids.drop i=e.kids[i]::e.kids.drop (i+1):=drop_eq_getElem_cons hlt';generalize e.kids[i]=b at hb hsz hdr;rw[hdr]at hr;simp only[Fl]at hr;simp(disch:=omega)only[go_sem,gm,hb];refine Bq ⟨⟨[],[(63,63)],[]⟩,[],[]⟩ (f239_ok N b (by omega) (lv+1) m (by omega) (by omega) hm0 hm) gI rfl gI (.inl rfl) ?_;obtain⟨b1,b2,b3,b4,b5⟩:=L3 N b (by omega) (lv+1) m (by omega) (by omega) hm0 hm;generalize meas b (lv+1) m=x at hr b1 b2 b3 b4 b5
   by_cases h0:x.1=0
   ·have e0:(x.1==0)=true:=by simp[h0]
    rw[if_pos h0]at hr;simp(disch:=omega)only[go_sem,e0];refine Bd ⟨[],[(63,63)],[]⟩ _ rfl ⟨rfl,rfl⟩ (by simp[lk]) ?_ ?_
    ·simp(disch:=omega)only[go_sem,← hr]
    ·simp(disch:=omega)only[go_sem,← hr]
   ·have e0:(x.1==0)=false:=by simp[h0]
    rw[if_neg h0]at hr;have hx:=b5 h0;simp(disch:=omega)only[go_sem,e0];refine hJ _ (i+1,x.2,max d x.1) ⟨by simp;omega,b3,hx,by simp;omega,by simp;omega,hr⟩ (by simp;omega) (Imp.Ar ?_ gI);refine gO ?_;exact .int (by rw[Int.max_def];split<;>split<;>omega)
  ·have hil:i=e.kids.length:=by simp at hge;omega
   subst hil;rw[drop_length]at hr;simp only[Fl]at hr;simp(disch:=omega)only[go_sem,← hr];refine Bd ⟨[],[(63,63)],[]⟩ _ rfl ⟨rfl,rfl⟩ (by simp[lk]) ?_ ?_
   ·exact gI
   ·exact gI
def depth(e:Expr):Int:=(meas e 1 0).1
def f156_ok(e:Expr):Ad C0 156 [.agg e.c] [] (I (depth e)) []:=by
 refine Ad.go f156 ?_;unfold f156;refine gO ?_;refine Bq ⟨⟨[],[(192,63)],[]⟩,[],[]⟩ (f239_ok _ e (Nat.lt_succ_self _) 1 0 (by omega) (by omega) (by omega) (by omega)) gI rfl gI (.inl rfl) ?_;refine gO ?_;refine As _ ?_;exact .eq rfl
@[go_sem] theorem j0(p q:Atom):(p.name==q.name&&decide (p.amt=q.amt))=decide (p=q):=by
 cases p;cases q;refine Bool.eq_iff_iff.2 ?_;simp
def hit(a b:Atom):Bool:=decide (a=b)||a.name==b.name
def Fm(l:List Atom)(a:Atom):Int × List Atom:=match l.find? (hit a) with
 |some b=>(if a=b then 0 else 13,l)
 |none=>if l.length=8 then (4,l) else (0,l++[a])
@[reducible] def C4(r:Nat)(l:List Atom):AV:=.sl (.own r 0) 3 (l.map Atom.c)
def f241_ok(l:List Atom)(a:Atom)(h8:l.length≤8):Ad C0 241 [.ptr 63 0,.agg a.c] [(63,[C4 0 l])] (I (Fm l a).1) [(63,[C4 1 (Fm l a).2])]:=by
 refine Ad.go f241 ?_;unfold f241;refine gO ?_;refine Ac (α:=Nat) (fun i=>⟨[(11,I i),(10,I l.length),(9,C4 0 l),(0,.ptr 63 0),(3,.ptr 192 0)],[(63,[C4 0 l]),(192,a.c)]⟩) (fun i=>i≤(l).length∧(l.take i).find? (hit a)=none) (fun i=>(l).length-i) 0 ⟨by omega,rfl⟩ ?_ ?_
 ·exact B0
 rintro i ⟨hi,hP⟩ J hJ;refine gO ?_;refine gR (l:=l) hi (fun b hb hbm hlt=>?_) (fun hil=>?_);simp(disch:=omega)only[go_sem,gm,hb]
 ·refine⟨fun h=>?_,fun h=>?_⟩
  ·have e:Fm l a=(0,l):=by
    unfold Fm;rw[H2 hP hb (by simp at h;simp[hit,h])];simp at h;simp[h]
   simp(disch:=omega)only[go_sem,e];refine Bd ⟨[(0,1)],[(63,63)],[]⟩ _ rfl ⟨rfl,rfl⟩ (by simp[lk]) ?_ ?_
   ·exact gI
   ·exact gI
  refine And.intro (fun h'=>?_) (fun h'=>?_)
  ·have e:Fm l a=(13,l):=by
    unfold Fm;rw[H2 hP hb (by simp at h';simp[hit,h'])];simp at h;simp[h]
   simp(disch:=omega)only[go_sem,e];refine Bd ⟨[(0,1)],[(63,63)],[]⟩ _ rfl ⟨rfl,rfl⟩ (by simp[lk]) ?_ ?_
   ·exact gI
   ·exact gI
  ·refine hJ _ (i+1) ⟨by omega,(by rw[BW hP hb];simp at h h';simp[hit,h,h'])⟩ (by omega) AT
 ·subst hil;rw[tL]at hP
  by_cases h9:l.length=8
  ·have e:Fm l a=(4,l):=by unfold Fm;rw[hP];simp[h9]
   have e9:((l.length:Int)==8)=true:=by simp[h9];
   simp(disch:=omega)only[go_sem,e,e9];refine Bd ⟨[(0,1)],[(63,63)],[]⟩ _ rfl ⟨rfl,rfl⟩ (by simp[lk]) ?_ ?_
   ·exact gI
   ·exact gI
  ·have e:Fm l a=(0,l++[a]):=by unfold Fm;rw[hP];simp[h9]
   have e9:((l.length:Int)==8)=false:=by simp;omega
   simp(disch:=omega)only[go_sem,e,e9];refine Vd (let o0:OT:=.done;let o1:OT:=.pick [(8,o0)];let o2:OT:=.pick [(7,o1)];let o3:OT:=.pick [(6,o2)];let o4:OT:=.pick [(5,o3)];let o5:OT:=.pick [(4,o4)];let o6:OT:=.pick [(3,o3)];let o7:OT:=.pick [(3,o4),(5,o6)];let o8:OT:=.pick [(3,o5),(4,o7)];let o9:OT:=.pick [(2,o6)];let o10:OT:=.pick [(2,o7),(5,o9)];let o11:OT:=.pick [(2,o8),(4,o10)];let o12:OT:=.pick [(1,o9)];let o13:OT:=.pick [(1,o10),(5,o12)];let o14:OT:=.pick [(1,o11),(4,o13)];let o15:OT:=.pick [(0,o2)];let o16:OT:=.pick [(0,o3),(6,o15)];let o17:OT:=.pick [(0,o4),(5,o16)];let o18:OT:=.pick [(0,o5),(4,o17)];let o19:OT:=.pick [(0,o6),(3,o16)];let o20:OT:=.pick [(0,o7),(3,o17),(5,o19)];let o21:OT:=.pick [(0,o8),(3,o18),(4,o20)];let o22:OT:=.pick [(0,o9),(2,o19)];let o23:OT:=.pick [(0,o10),(2,o20),(5,o22)];let o24:OT:=.pick [(0,o11),(2,o21),(4,o23)];let o25:OT:=.pick [(0,o12),(1,o22)];let o26:OT:=.pick [(0,o13),(1,o23),(5,o25)];let o27:OT:=.pick [(0,o14),(1,o24),(4,o26)];o27) fol kR ?_;simp(disch:=omega)only[go_sem]
   repeat'(with_reducible refine And.intro ?_ ?_)
   all_goals(refine Bd ⟨[(2240,1)],[(63,63)],[]⟩ _ rfl ⟨rfl,rfl⟩ (by simp[lk]) ?_ ?_)
   all_goals(try simp(disch:=omega)only[go_sem])
   all_goals exact .sl (by simp[Atom.c])
def bz{l:List Atom}{a:Atom}(h:l.length≤8):(Fm l a).2.length≤8:=by
 unfold Fm;split
 ·exact h
 ·split
  ·exact h
  ·simp;omega
def Kb(a:Atom):Bool:=BM a.name&&(Hs.fits a.amt||Hy.fits a.amt)
def a0:Atom:=⟨[],⟨0,0⟩⟩
def TM(p:Atom):(p.name==[]&&(p.amt.mode==0&&p.amt.Ax==0))=decide (p=a0):=by
 cases p with
 | mk n a =>
  cases a;refine Bool.eq_iff_iff.2 ?_;simp[a0]
mutual
def prop:Expr→List Atom→Bool × List Atom
 |.mk k a kids,l=>if kids.length=0 then (if k=0∧Kb a=true then ((Fm l a).1==0,(Fm l a).2) else (false,l))
  else if k<1∨(kids.length:Int)<k∨a≠a0 then (false,l) else Cl kids l
def Cl:List Expr→List Atom→Bool × List Atom
 |[],l=>(true,l)
 | e::es,l=>if (prop e l).1=true then Cl es (prop e l).2 else (false,(prop e l).2)
end
def D2(e:Expr)(l:List Atom):prop e l=if e.kids.length=0 then (if e.k=0∧Kb e.atom=true then ((Fm l e.atom).1==0,(Fm l e.atom).2) else (false,l))
 else if e.k<1∨(e.kids.length:Int)<e.k∨e.atom≠a0 then (false,l) else Cl e.kids l:=by
 cases e;simp only[prop];rfl
def V9:∀ (es:List Expr) (l:List Atom),(∀ e∈es,∀ l:List Atom,l.length≤8→(prop e l).2.length≤8)→l.length≤8→(Cl es l).2.length≤8
 |[],l,_,h=>by simpa [Cl]using h
 | e::es,l,hk,h=>by
  have:=hk e (by simp) l h;simp only[Cl];split
  ·exact V9 es _ (fun e' he=>hk e' (by simp[he])) this
  ·exact this
def Qg:∀ (N:Nat) (e:Expr),SizeOf.sizeOf e<N→∀ l:List Atom,l.length≤8→(prop e l).2.length≤8
 | 0,_,h,_,_=>by omega
 | N+1,e,h,l,hl=>by
  rw[D2];split
  ·split
   ·exact bz hl
   ·exact hl
  ·split
   ·exact hl
   ·exact V9 _ _ (fun e' he l' hl'=>Qg N e' (by have:=DB he;omega) l' hl') hl
def f157_ok:∀ (N:Nat) (e:Expr),SizeOf.sizeOf e<N→∀ l:List Atom,l.length≤8 →
 Ad C0 157 [.agg e.c,.ptr 63 0] [(63,[C4 0 l])] (B (prop e l).1) [(63,[C4 1 (prop e l).2])]
 | 0,_,h,_,_=>by omega
 | N+1,e,h,l,hl=>by
  refine Ad.lens f157 fun hlen=>?_
  simp only[ED,lens,Expr.BV,length_map,and_true,true_and]at hlen;refine Ad.go f157 ?_;unfold f157
  by_cases hk:e.kids.length=0
  ·have e1:((e.kids.length:Int)==0)=true:=by simp[hk]
   simp(disch:=omega)only[go_sem,e1]
   by_cases h0:e.k=0
   ·have e2:(e.k==0)=true:=by simp[h0]
    simp(disch:=omega)only[go_sem,e2];refine Ae (f240_ok e.atom) ?_;cases ha:Kb e.atom
    ·have ha':(BM e.atom.name&&(Hs.fits e.atom.amt||Hy.fits e.atom.amt))=false:=ha;have ep:prop e l=(false,l):=by rw[D2,if_pos hk,if_neg (by simp[ha])]
     simp(disch:=omega)only[go_sem,ha',ep];refine Bd ⟨[(0,1)],[(63,63)],[]⟩ _ rfl ⟨rfl,rfl⟩ (by simp[lk]) ?_ ?_
     ·exact gI
     ·exact gI
    ·have ha':(BM e.atom.name&&(Hs.fits e.atom.amt||Hy.fits e.atom.amt))=true:=ha;have ep:prop e l=((Fm l e.atom).1==0,(Fm l e.atom).2):=by rw[D2,if_pos hk,if_pos ⟨h0,ha⟩]
     simp(disch:=omega)only[go_sem,ha',ep];refine Bq ⟨⟨[(0,0)],[(63,63)],[]⟩,[(1,1472)],[]⟩ (f241_ok l e.atom hl) gI rfl gI (.inl rfl) ?_;refine gO ?_;refine Bd ⟨[(1472,1)],[(63,63)],[]⟩ _ rfl ⟨rfl,rfl⟩ (by simp[lk]) ?_ ?_
     ·exact gI
     ·exact gI
   ·have e2:(e.k==0)=false:=by simp[h0]
    have ep:prop e l=(false,l):=by rw[D2,if_pos hk,if_neg (by simp[h0])]
    simp(disch:=omega)only[go_sem,e2,ep];refine Bd ⟨[(0,1)],[(63,63)],[]⟩ _ rfl ⟨rfl,rfl⟩ (by simp[lk]) ?_ ?_
    ·exact gI
    ·exact gI
  have e1:((e.kids.length:Int)==0)=false:=by simp only[beq_eq_false_iff_ne,ne_eq];omega
  have ez:(e.atom.name==[]&&(e.atom.amt.mode==0&&e.atom.amt.Ax==0))=decide (e.atom=a0):=TM e.atom
  by_cases hbad:e.k<1∨(e.kids.length:Int)<e.k∨e.atom≠a0
  ·have ep:prop e l=(false,l):=by rw[D2,if_neg hk,if_pos hbad]
   simp(disch:=omega)only[go_sem,e1,ez,ep]
   repeat'(with_reducible refine And.intro (fun h=>?_) (fun h=>?_))
   all_goals(try(exfalso;simp_all;omega))
   all_goals(refine Bd ⟨[(0,1)],[(63,63)],[]⟩ _ rfl ⟨rfl,rfl⟩ (by simp[lk]) ?_ ?_)
   all_goals simp(disch:=omega)only[go_sem]
  have ep:prop e l=Cl e.kids l:=by rw[D2,if_neg hk,if_neg hbad]
  have b1:(e.k<1)=False:=by simp;omega
  have b2:((e.kids.length:Int)<e.k)=False:=by simp;omega
  have b3:e.atom=a0:=by
   by_cases h:e.atom=a0
   ·exact h
   ·exact absurd (Or.inr (Or.inr h)) hbad
  have ez':(e.atom.name==[]&&(e.atom.amt.mode==0&&e.atom.amt.Ax==0))=true:=by rw[ez];simp[b3]
  simp(disch:=omega)only[go_sem,e1,ez',b1,b2,decide_false,ep];refine Ac (α:=Nat × List Atom) (fun q=>⟨[(46,I q.1),(45,I e.kids.length),(44,Fa e.kids),(1,.ptr 63 0)],[(63,[C4 3328 q.2])]⟩)
   (fun q=>q.1≤e.kids.length∧q.2.length≤8∧Cl (e.kids.drop q.1) q.2=Cl e.kids l) (fun q=>e.kids.length-q.1) (0,l) ⟨by simp,hl,by simp⟩ ?_ ?_
  ·refine Imp.ren ⟨[(0,3328)],[(63,63)],[]⟩ ⟨rfl,rfl⟩ (by simp[lk]) ?_ ?_
   ·exact gI
   ·exact gI
  rintro⟨i,m⟩ ⟨hi,hm,hr⟩ J hJ
  replace hi:i≤e.kids.length:=hi
  replace hm:m.length≤8:=hm
  replace hr:Cl (e.kids.drop i) m=Cl e.kids l:=hr
  refine gO ?_;refine ⟨fun hlt=>?_,fun hge=>?_⟩
  ·have hlt':i<e.kids.length:=by simp at hlt;omega
   have hb:e.kids[i]?=some e.kids[i]:=gE hlt';have hsz:=DB (List.getElem_mem hlt');have hdr:e.kids.drop i=e.kids[i]::e.kids.drop (i+1):=drop_eq_getElem_cons hlt';generalize e.kids[i]=b at hb hsz hdr;rw[hdr]at hr;simp only[Cl]at hr;simp(disch:=omega)only[go_sem,gm,hb];refine Bq ⟨⟨[(3328,0)],[(63,63)],[]⟩,[(1,3329)],[]⟩ (f157_ok N b (by omega) m hm) gI rfl gI (.inl rfl) ?_;have hx:=Qg N b (by omega) m hm;generalize prop b m=x at hr hx;cases hx1:x.1
   ·rw[hx1]at hr;simp only[Bool.false_eq_true,if_false]at hr;simp(disch:=omega)only[go_sem,zF];refine Bd ⟨[(3329,1)],[(63,63)],[]⟩ _ rfl ⟨rfl,rfl⟩ (by simp[lk]) ?_ ?_
    ·simp(disch:=omega)only[go_sem,← hr]
    ·simp(disch:=omega)only[go_sem,← hr]
   ·rw[hx1]at hr;simp only[if_true]at hr;simp(disch:=omega)only[go_sem,zT];refine hJ _ (i+1,x.2) ⟨by simp;omega,hx,hr⟩ (by simp;omega) (Imp.ren ⟨[(3329,3328)],[(63,63)],[]⟩ ⟨rfl,rfl⟩ (by simp[lk]) ?_ ?_)
    ·exact gI
    ·exact gI
  ·have hil:i=e.kids.length:=by simp at hge;omega
   subst hil;rw[drop_length]at hr;simp only[Cl]at hr;simp(disch:=omega)only[go_sem,← hr];refine Bd ⟨[(3328,1)],[(63,63)],[]⟩ _ rfl ⟨rfl,rfl⟩ (by simp[lk]) ?_ ?_
   ·exact gI
   ·exact gI
def Bb(e:Expr):Bool:=!(depth e==0)&&(prop e []).1
def f103_ok(e:Expr):Ad C0 103 [.agg e.c] [] (B (Bb e)) []:=by
 refine Ad.go f103 ?_;unfold f103;refine gO ?_;refine Ae (f156_ok e) ?_;refine gO ?_;refine⟨fun h=>?_,fun h=>?_⟩
 ·refine Bq ⟨⟨[],[(192,63)],[]⟩,[(1,576)],[]⟩ (f157_ok _ e (Nat.lt_succ_self _) [] (by simp)) gI rfl (by simp(disch:=omega)only[go_sem,List.map_nil];exact .AO (by omega)) (.inl rfl) ?_;refine gO ?_;refine As _ ?_;exact .eq (by simp at h;simp[Bb,h])
 ·refine As _ ?_;exact .eq (by simp at h;simp[Bb,h])
def wb{a b:Bool}(h:a=b):BZ (.v (.bool a)) (B b):=.eq (by rw[h])
def wi{a b:Int}(h:a=b):BZ (.v (.int .i64 a)) (I b):=.eq (by rw[h])
def B2(l:List Ab)(p:Ab):Bool:=decide (p∈l)
def R0{α:Type}[DecidableEq α]{l:List α}{p:α}(h:l.find? (fun x=>decide (x=p))=none):p∉l:=by
 rw[List.find?_eq_none]at h;intro hp;simpa using h p hp
def f29_ok(l:List Ab)(p:Ab)(hl:l.length≤1000000):Ad C0 29 [AX l,.agg p.c] [] (B (B2 l p)) []:=by
 refine Ad.go f29 ?_;unfold f29;refine gO ?_;refine Ac (α:=Nat) (fun i=>⟨[(5,I i),(0,AX l),(3,.ptr 192 0)],[(192,p.c)]⟩) (fun i=>i≤(l).length∧(l.take i).find? (fun x=>decide (x=p))=none) (fun i=>(l).length-i) 0 ⟨by omega,rfl⟩ ?_ ?_
 ·exact B0
 rintro i ⟨hi,hP⟩ J hJ;refine gO ?_;refine gR (l:=l) hi (fun b hb hbm hlt=>?_) (fun hil=>?_);refine Aw 5 [([],[0]),([],[5]),([],[12,13]),([],[14]),([],[3])] fol ?_;simp(disch:=omega)only[go_sem,gm,hb]
 ·refine⟨fun h=>?_,fun h=>?_⟩
  ·have e:B2 l p=true:=by simp at h;subst h;simp[B2,hbm]
   simp(disch:=omega)only[go_sem,e];exact AQ _
  ·refine hJ _ (i+1) ⟨by omega,(by rw[BW hP hb];simp at h;simp[h])⟩ (by omega) AT
 ·subst hil;rw[tL]at hP;have e:B2 l p=false:=by simp[B2,R0 hP]
  simp(disch:=omega)only[go_sem,e];exact AQ _
def ord(a b:Int):Int:=if a<b then -1 else if b<a then 1 else 0
def f159_ok(a b:Int):Ad C0 159 [I a,I b] [] (I (ord a b)) []:=by
 refine Ad.go f159 ?_;unfold f159;simp(disch:=omega)only[go_sem]
 repeat'(with_reducible refine And.intro (fun h=>?_) (fun h=>?_))
 all_goals(refine Cn _ ?_)
 all_goals(try simp(disch:=omega)only[go_sem])
 all_goals(first|refine wb ?_|refine wi ?_|refine .eq ?_)
 all_goals(first|(simp_all[ord]<;>omega)|(refine Bool.eq_iff_iff.2 ?_;simp_all[ord]<;>omega))
def af(p q:Ab):Bc p q=if ord p.site q.site≠0 then ord p.site q.site else if ord p.inc q.inc≠0 then ord p.inc q.inc else ord p.num q.num:=by
 unfold Bc ord
 repeat' split
 all_goals first|rfl|omega
def f107_ok(p q:Ab):Ad C0 107 [.agg p.c,.agg q.c] [] (I (Bc p q)) []:=by
 refine Ad.go f107 ?_;unfold f107;refine gO ?_;refine Ae (f159_ok p.site q.site) ?_;refine gO ?_;have hc:=af p q;refine⟨fun h=>?_,fun h=>?_⟩
 ·simp at h;rw[if_pos h]at hc;refine As _ ?_;exact .eq (by rw[hc])
 simp at h;rw[if_neg (by simp[h])]at hc;refine Ae (f159_ok p.inc q.inc) ?_;refine gO ?_;refine⟨fun h=>?_,fun h=>?_⟩
 ·simp at h;rw[if_pos h]at hc;refine As _ ?_;exact .eq (by rw[hc])
 simp at h;rw[if_neg (by simp[h])]at hc;refine Ae (f159_ok p.num q.num) ?_;refine gO ?_;refine As _ ?_;exact .eq (by rw[hc])
def f162_ok(a:Amt):Ad C0 162 [.agg a.c] [] (B a.zero) []:=by
 refine Ad.go f162 ?_;unfold f162;simp(disch:=omega)only[go_sem]
 repeat'(with_reducible refine And.intro (fun h=>?_) (fun h=>?_))
 all_goals(refine Cn _ ?_)
 all_goals(try simp(disch:=omega)only[go_sem])
 all_goals(first|refine wb ?_|refine wi ?_|refine .eq ?_)
 all_goals(first|(simp_all[Amt.zero]<;>omega)|(refine Bool.eq_iff_iff.2 ?_;simp_all[Amt.zero]<;>omega))
def f250_ok(r:Res):Ad C0 250 [.agg r.c] [] (B r.shaped) []:=by
 refine Ad.go f250 ?_;unfold f250;simp(disch:=omega)only[go_sem]
 repeat'(with_reducible refine And.intro (fun h=>?_) (fun h=>?_))
 all_goals(refine Cn _ ?_)
 all_goals(try simp(disch:=omega)only[go_sem])
 all_goals(first|refine wb ?_|refine wi ?_|refine .eq ?_)
 all_goals(first|(simp_all[Res.shaped,AI]<;>omega)|(refine Bool.eq_iff_iff.2 ?_;simp_all[Res.shaped,AI]<;>omega))
def f251_ok(m:Int):Ad C0 251 [I m] [] (B (Bi m)) []:=by
 refine Ad.go f251 ?_;unfold f251;simp(disch:=omega)only[go_sem]
 repeat'(with_reducible refine And.intro (fun h=>?_) (fun h=>?_))
 all_goals(refine Cn _ ?_)
 all_goals(try simp(disch:=omega)only[go_sem])
 all_goals(first|refine wb ?_|refine wi ?_|refine .eq ?_)
 all_goals(first|(simp_all[Bi,AI]<;>omega)|(refine Bool.eq_iff_iff.2 ?_;simp_all[Bi,AI]<;>omega))
def f171_ok(r:Res)(a:Amt):Ad C0 171 [.agg r.c,.agg a.c] [] (B (r.fits a)) []:=by
 refine Ad.go f171 ?_;unfold f171;simp(disch:=omega)only[go_sem]
 repeat'(first
  |(with_reducible refine And.intro (fun h=>?_) (fun h=>?_))
  |((with_reducible show AW _ _ 250 _ _ _);refine Ah (f250_ok r) ?_ rfl ?_;(focus(simp(disch:=omega)only[go_sem];done));try simp(disch:=omega)only[go_sem])
  |((with_reducible show AW _ _ 251 _ _ _);refine Ah (f251_ok a.mode) ?_ rfl ?_;(focus(simp(disch:=omega)only[go_sem];done));try simp(disch:=omega)only[go_sem]))
 all_goals(refine Cn _ ?_)
 all_goals(try simp(disch:=omega)only[go_sem])
 all_goals(first|refine wb ?_|refine wi ?_|refine .eq ?_)
 all_goals(first|(simp_all[Res.fits,AI]<;>omega)|(refine Bool.eq_iff_iff.2 ?_;simp_all[Res.fits,AI]<;>omega))
def f153_ok(l:List AP)(p:Ab)(hl:l.length≤1000000):Ad C0 153 [Be l,.agg p.c] [] (I (Fv l p)) []:=by
 refine Ad.go f153 ?_;unfold f153;refine gO ?_;refine Ac (α:=Nat) (fun i=>⟨[(5,I i),(0,Be l),(3,.ptr 192 0)],[(192,p.c)]⟩) (fun i=>i≤(l).length∧(l.take i).find? (fun h=>decide (h.proc=p))=none) (fun i=>(l).length-i) 0 ⟨by omega,rfl⟩ ?_ ?_
 ·exact B0
 rintro i ⟨hi,hP⟩ J hJ;refine gO ?_;refine gR (l:=l) hi (fun b hb hbm hlt=>?_) (fun hil=>?_);refine Aw 6 [([],[0]),([],[5]),([],[12,13]),([],[14]),([],[15]),([],[3])] fol ?_;simp(disch:=omega)only[go_sem,gm,hb]
 ·refine⟨fun h=>?_,fun h=>?_⟩
  ·have e:Fv l p=i:=by unfold Fv;rw[F8 hP b hb (by simpa using h)]
   simp(disch:=omega)only[go_sem,e];exact AQ _
  ·refine hJ _ (i+1) ⟨by omega,(by rw[BW hP hb];simp at h;simp[h])⟩ (by omega) AT
 ·subst hil;rw[tL]at hP;have e:Fv l p = -1:=by
   unfold Fv;have:l.findIdx? (fun h=>decide (h.proc=p))=none:=by
    rw[List.findIdx?_eq_none_iff];rw[List.find?_eq_none]at hP;intro x hx;simpa using hP x hx
   rw[this]
  simp(disch:=omega)only[go_sem,e];exact AQ _
def f244_ok(l:List AK)(p:Ab)(hl:l.length≤1000000):Ad C0 244 [AL l,.agg p.c] [] (.agg (At l p).c) []:=by
 refine Ad.go f244 ?_;unfold f244;refine gO ?_;refine Ac (α:=Nat) (fun i=>⟨[(5,I i),(0,AL l),(3,.ptr 192 0),(4,.ptr 256 0)],[(192,p.c),(256,(⟨0,0⟩:Amt).c)]⟩) (fun i=>i≤(l).length∧(l.take i).find? (fun h=>decide (h.proc=p))=none) (fun i=>(l).length-i) 0 ⟨by omega,rfl⟩ ?_ ?_
 ·exact B0
 rintro i ⟨hi,hP⟩ J hJ;refine gO ?_;refine gR (l:=l) hi (fun b hb hbm hlt=>?_) (fun hil=>?_);refine Aw 6 [([],[0]),([],[5]),([],[12,13]),([],[14]),([],[15]),([],[3])] fol ?_;simp(disch:=omega)only[go_sem,gm,hb]
 ·refine⟨fun h=>?_,fun h=>?_⟩
  ·have e:At l p=b.amt:=by unfold At;rw[H2 hP hb (by simpa using h)]
   simp(disch:=omega)only[go_sem,e];exact AQ _
  ·refine hJ _ (i+1) ⟨by omega,(by rw[BW hP hb];simp at h;simp[h])⟩ (by omega) AT
 ·subst hil;rw[tL]at hP;have e:At l p=⟨0,0⟩:=by unfold At;rw[hP]
  simp(disch:=omega)only[go_sem,e];exact AQ _
def f284_ok(c:UInt8):Ad C0 284 [.v (.int .u8 c.toNat)] [] (B (letter c)) []:=by
 refine Ad.go f284 ?_;unfold f284;simp(disch:=omega)only[go_sem]
 repeat'(with_reducible refine And.intro (fun h=>?_) (fun h=>?_))
 all_goals(refine Cn _ ?_)
 all_goals(try simp(disch:=omega)only[go_sem])
 all_goals(first|refine wb ?_|refine wi ?_|refine .eq ?_)
 all_goals(first|(simp_all[letter]<;>omega)|(refine Bool.eq_iff_iff.2 ?_;simp_all[letter]<;>omega))
def f285_ok(s:Bs):Ad C0 285 [.v (.string (str s))] [] (B (reserved s)) []:=by
 refine Ad.go f285 ?_;unfold f285;simp(disch:=omega)only[go_sem]
 repeat'(first
  |(with_reducible refine And.intro (fun h=>?_) (fun h=>?_))
)
 all_goals(refine Cn _ ?_)
 all_goals(try simp(disch:=omega)only[go_sem])
 all_goals(first|refine wb ?_|refine wi ?_|refine .eq ?_)
 all_goals(first|(simp_all[reserved]<;>omega)|(refine Bool.eq_iff_iff.2 ?_;simp_all[reserved]<;>omega))
def part(c:UInt8):Bool:=letter c||other c
def f286_ok(c:UInt8):Ad C0 286 [.v (.int .u8 c.toNat)] [] (B (part c)) []:=by
 refine Ad.go f286 ?_;unfold f286;simp(disch:=omega)only[go_sem]
 repeat'(first
  |(with_reducible refine And.intro (fun h=>?_) (fun h=>?_))
  |((with_reducible show AW _ _ 284 _ _ _);refine Ah (f284_ok c) ?_ rfl ?_;(focus(simp(disch:=omega)only[go_sem];done));try simp(disch:=omega)only[go_sem]))
 all_goals(refine Cn _ ?_)
 all_goals(try simp(disch:=omega)only[go_sem])
 all_goals(first|refine wb ?_|refine wi ?_|refine .eq ?_)
 all_goals(first|(simp_all[part,letter,other]<;>omega)|(refine Bool.eq_iff_iff.2 ?_;simp_all[part,letter,other]<;>omega))
def XE(s:Bs):BM s=(decide (1≤s.length)&&decide (s.length≤12)&&(match s with | []=>false|c::_=>letter c)&&!reserved s&&s.all part):=by
 cases s with
 | nil=>rfl
 | cons c l =>
  have h:∀ (l:List UInt8) (k:Nat),((l.zipIdx (k+1)).all fun x=>okc x.2 x.1)=l.all part:=by
   intro l
   induction l with
   | nil=>intro k;rfl
   | cons x l ih =>
    intro k;simp only[List.zipIdx_cons,all_cons,ih];simp[okc,part]
  simp only[BM,Ca,List.zipIdx_cons,all_cons,h];simp only[okc,part];cases letter c<;>simp
def Qr{α:Type}{f:α→Bool}{l:List α}{i:Nat}{b:α}(hb:l[i]?=some b):(l.take (i+1)).all f=((l.take i).all f&&f b):=by
 simp[tA,hb,all_append]
def all_false{α:Type}{f:α→Bool}{l:List α}{b:α}(hb:b∈l)(h:f b=false):l.all f=false:=by
 rw[all_eq_false];exact⟨b,hb,by simp[h]⟩
def VX(c:UInt8)(l s:Bs)(hs:s=c::l):BM s=(decide (s.length≤12)&&letter c&&!reserved s&&s.all part):=by
 rw[XE];subst hs;simp
def f247_ok(s:Bs):Ad C0 247 [.v (.string (str s))] [] (B (BM s)) []:=by
 refine Ad.go f247 ?_;unfold f247;cases hs:s with
 | nil =>
  simp(disch:=omega)only[go_sem,length_nil];refine As _ ?_;exact wb (by decide)
 | cons c l =>
  have e3:s[0]?=some c:=by rw[hs];rfl
  have hk:=VX c l s hs;have e1:((s.length:Int)<1)=False:=by rw[hs];simp;omega
  rw[← hs];clear hs
  by_cases h2:12<s.length
  ·have e2:(12<(s.length:Int))=True:=by simp;omega
   simp(disch:=omega)only[go_sem,e1,e2,decide_false];refine As _ ?_;exact .eq (by rw[hk];simp;omega)
  ·have e2:(12<(s.length:Int))=False:=by simp;omega
   have e5:decide (s.length≤12)=true:=by simp;omega
   rw[e5]at hk;simp(disch:=omega)only[go_sem,e1,e2,e3,decide_false];refine Ae (f284_ok c) ?_;cases hc:letter c
   ·rw[hc]at hk;simp(disch:=omega)only[go_sem,zF,hk];exact AQ _
   simp(disch:=omega)only[go_sem,zT];refine Ae (f285_ok s) ?_;cases hr:reserved s;rotate_left
   ·rw[hr]at hk;simp(disch:=omega)only[go_sem,hk];exact AQ _
   refine gO ?_;refine Ac (α:=Nat) (fun i=>⟨[(3,I i),(0,.v (.string (str s)))],[]⟩) (fun i=>i≤(s).length∧(s.take i).all part=true) (fun i=>(s).length-i) 0 ⟨by omega,rfl⟩ ?_ ?_
   ·exact B0
   rintro i ⟨hi,hP⟩ J hJ;refine gO ?_;refine gR (l:=s) hi (fun b hb hbm hlt=>?_) (fun hil=>?_);simp(disch:=omega)only[go_sem,gm,hb]
   ·refine Ae (f286_ok b) ?_;cases hp:part b
    ·simp(disch:=omega)only[go_sem,zF];refine As _ ?_;exact .eq (by rw[hk,all_false hbm hp];simp)
    ·simp(disch:=omega)only[go_sem,zT];refine hJ _ (i+1) ⟨by omega,(by rw[Qr hb,hP,hp];rfl)⟩ (by omega) AT
   ·subst hil;rw[tL]at hP;refine As _ ?_;exact .eq (by rw[hk,hc,hr,hP];rfl)
def f246_ok(r:Res):Ad C0 246 [.agg r.c] [] (B (BM r.name&&r.shaped&&AI r.home 0 3)) []:=by
 refine Ad.go f246 ?_;unfold f246;simp(disch:=omega)only[go_sem]
 repeat'(first
  |(with_reducible refine And.intro (fun h=>?_) (fun h=>?_))
  |((with_reducible show AW _ _ 247 _ _ _);refine Ah (f247_ok r.name) ?_ rfl ?_;(focus(simp(disch:=omega)only[go_sem];done));try simp(disch:=omega)only[go_sem])
  |((with_reducible show AW _ _ 250 _ _ _);refine Ah (f250_ok r) ?_ rfl ?_;(focus(simp(disch:=omega)only[go_sem];done));try simp(disch:=omega)only[go_sem]))
 all_goals(refine Cn _ ?_)
 all_goals(try simp(disch:=omega)only[go_sem])
 all_goals(first|refine wb ?_|refine wi ?_|refine .eq ?_)
 all_goals(first|(simp_all[AI]<;>omega)|(refine Bool.eq_iff_iff.2 ?_;simp_all[AI]<;>omega))
def f287_ok(a b:Int):Ad C0 287 [I a,I b] [] (B (A5 a b)) []:=by
 refine Ad.go f287 ?_;unfold f287;refine gO ?_;refine Ae (f251_ok a) ?_;cases ha:Bi a
 ·simp(disch:=omega)only[go_sem,zF];refine As _ ?_;exact .eq (by simp[A5,ha])
 simp(disch:=omega)only[go_sem,zT];refine Ae (f251_ok b) ?_;cases hb:Bi b
 ·simp(disch:=omega)only[go_sem,zF];refine As _ ?_;exact .eq (by simp[A5,hb])
 simp(disch:=omega)only[go_sem,zT];obtain rfl|rfl|rfl|rfl|rfl:=AN ha<;>obtain rfl|rfl|rfl|rfl|rfl:=AN hb
 all_goals(try simp(disch:=omega)only[go_sem])
 all_goals(refine Cn _ ?_)
 all_goals simp(disch:=omega)only[go_sem]
 all_goals exact wb (by decide)
def f289_ok(r:Res)(a:Amt):Ad C0 289 [.agg r.c,.agg a.c] [] (B (r.permits a)) []:=by
 refine Ad.go f289 ?_;unfold f289;simp(disch:=omega)only[go_sem]
 repeat'(first
  |(with_reducible refine And.intro (fun h=>?_) (fun h=>?_))
  |((with_reducible show AW _ _ 250 _ _ _);refine Ah (f250_ok r) ?_ rfl ?_;(focus(simp(disch:=omega)only[go_sem];done));try simp(disch:=omega)only[go_sem])
  |((with_reducible show AW _ _ 162 _ _ _);refine Ah (f162_ok a) ?_ rfl ?_;(focus(simp(disch:=omega)only[go_sem];done));try simp(disch:=omega)only[go_sem])
  |((with_reducible show AW _ _ 171 _ _ _);refine Ah (f171_ok r a) ?_ rfl ?_;(focus(simp(disch:=omega)only[go_sem];done));try simp(disch:=omega)only[go_sem]))
 all_goals(refine Cn _ ?_)
 all_goals(try simp(disch:=omega)only[go_sem])
 all_goals(first|refine wb ?_|refine wi ?_|refine .eq ?_)
 all_goals(first|(simp_all[Res.permits]<;>omega)|(refine Bool.eq_iff_iff.2 ?_;simp_all[Res.permits]<;>omega))
def f105_ok(p:Ab):Ad C0 105 [.agg p.c] [] (B p.ok) []:=by
 refine Ad.go f105 ?_;unfold f105;simp(disch:=omega)only[go_sem]
 repeat'(with_reducible refine And.intro (fun h=>?_) (fun h=>?_))
 all_goals(refine Cn _ ?_)
 all_goals(try simp(disch:=omega)only[go_sem])
 all_goals(first|refine wb ?_|refine wi ?_|refine .eq ?_)
 all_goals(first|(simp_all[Ab.ok,AI]<;>omega)|(refine Bool.eq_iff_iff.2 ?_;simp_all[Ab.ok,AI]<;>omega))
def f304_ok(a b:Int):Ad C0 304 [I a,I b] [] (B (BR a b)) []:=by
 refine Ad.go f304 ?_;unfold f304;refine gO ?_;refine Ae (f251_ok a) ?_;cases ha:Bi a
 ·simp(disch:=omega)only[go_sem,zF];refine As _ ?_;exact .eq (by simp[BR,ha])
 simp(disch:=omega)only[go_sem,zT];refine Ae (f251_ok b) ?_;cases hb:Bi b
 ·simp(disch:=omega)only[go_sem,zF];refine As _ ?_;exact .eq (by simp[BR,hb])
 simp(disch:=omega)only[go_sem,zT];obtain rfl|rfl|rfl|rfl|rfl:=AN ha<;>obtain rfl|rfl|rfl|rfl|rfl:=AN hb
 all_goals(try simp(disch:=omega)only[go_sem])
 all_goals(refine Cn _ ?_)
 all_goals simp(disch:=omega)only[go_sem]
 all_goals exact wb (by decide)
def Nk(a b:Int):BR a b=BR b a:=by
 cases ha:Bi a
 ·simp[BR,ha]
 cases hb:Bi b
 ·simp[BR,hb]
 obtain rfl|rfl|rfl|rfl|rfl:=AN ha<;>obtain rfl|rfl|rfl|rfl|rfl:=AN hb<;>decide
def f303_ok(l:List AK)(hl:l.length≤1000000):Ad C0 303 [AL l] [] (Pd (l.map (·.amt))) []:=by
 refine Ad.go f303 ?_;unfold f303;refine gO ?_;refine Ac (α:=Nat) (fun i=>⟨[(4,I i),(0,AL l),(3,.sl (.own 1152 0) 2 ((l.take i).map fun h=>h.amt.c))],[]⟩) (fun i=>i≤(l).length∧True) (fun i=>(l).length-i) 0 ⟨by omega,trivial⟩ ?_ ?_
 ·exact B0
 rintro i ⟨hi,hP⟩ J hJ;refine gO ?_;refine gR (l:=l) hi (fun b hb hbm hlt=>?_) (fun hil=>?_);simp(disch:=omega)only[go_sem,gm,hb]
 ·refine hJ _ (i+1) ⟨by omega,trivial⟩ (by omega) (Imp.Ar ?_ gI);refine gO ?_;exact .sl (by simp[tA,hb,Amt.c])
 ·subst hil;refine CL ⟨[],[],[1152]⟩ _ ?_;simp(disch:=omega)only[go_sem,tL];exact .sl (by simp[Amt.c])
def f274_ok(a:Amt):Ad C0 274 [.agg a.c] [] (B (Hs.fits a||Hy.fits a)) []:=by
 have e:(Hs.fits a||Hy.fits a)=(Bi a.mode&&a.Ax==0||(a.mode==0&&decide (1≤a.Ax)&&decide (a.Ax≤8))):=by
  refine Bool.eq_iff_iff.2 ?_;simp[Hs,Hy,Res.fits,Res.shaped,AI,and_assoc];exact⟨fun h=>h.imp id fun h=>⟨h.1,h.2.1,of_decide_eq_true h.2.2⟩,fun h=>h.imp id fun h=>⟨h.1,h.2.1,decide_eq_true h.2.2⟩⟩
 rw[e];refine Ad.go f274 ?_;unfold f274;simp(disch:=omega)only[go_sem]
 repeat'(first
  |(with_reducible refine And.intro (fun h=>?_) (fun h=>?_))
  |((with_reducible show AW _ _ 251 _ _ _);refine Ah (f251_ok a.mode) ?_ rfl ?_;(focus(simp(disch:=omega)only[go_sem];done));try simp(disch:=omega)only[go_sem]))
 all_goals(refine Cn _ ?_)
 all_goals(try simp(disch:=omega)only[go_sem])
 all_goals(first|refine wb ?_|refine wi ?_|refine .eq ?_)
 all_goals(first|(simp_all[]<;>omega)|(refine Bool.eq_iff_iff.2 ?_;simp_all[]<;>omega))
def f315_ok(w:AP):Ad C0 315 [.agg w.c] [] (B w.ok) []:=by
 refine Ad.go f315 ?_;unfold f315;simp(disch:=omega)only[go_sem]
 repeat'(first
  |(with_reducible refine And.intro (fun h=>?_) (fun h=>?_))
  |((with_reducible show AW _ _ 105 _ _ _);refine Ah (f105_ok w.proc) ?_ rfl ?_;(focus(simp(disch:=omega)only[go_sem];done));try simp(disch:=omega)only[go_sem])
  |((with_reducible show AW _ _ 274 _ _ _);refine Ah (f274_ok w.amt) ?_ rfl ?_;(focus(simp(disch:=omega)only[go_sem];done));try simp(disch:=omega)only[go_sem]))
 all_goals(refine Cn _ ?_)
 all_goals(try simp(disch:=omega)only[go_sem])
 all_goals(first|refine wb ?_|refine wi ?_|refine .eq ?_)
 all_goals(first|(simp_all[AP.ok,AI]<;>omega)|(refine Bool.eq_iff_iff.2 ?_;simp_all[AP.ok,AI]<;>omega))
def f282_ok(l:List AP)(hl:l.length≤1000000):Ad C0 282 [Be l] [] (B (Dr l)) []:=by
 refine Ad.go f282 ?_;unfold f282
 by_cases h1:8<l.length
 ·have e1:(8<(l.length:Int))=True:=by simp;omega
  simp(disch:=omega)only[go_sem,e1];refine As _ ?_;exact .eq (by simp[Dr];omega)
 have e1:(8<(l.length:Int))=False:=by simp;omega
 simp(disch:=omega)only[go_sem,e1,decide_false];refine Ac (α:=Nat) (fun i=>⟨[(3,I i),(0,Be l)],[]⟩) (fun i=>i≤(l).length∧Ca (Fk l) (l.take i)=true) (fun i=>(l).length-i) 0 ⟨by omega,rfl⟩ ?_ ?_
 ·exact B0
 rintro i ⟨hi,hP⟩ J hJ;refine gO ?_;refine gR (l:=l) hi (fun b hb hbm hlt=>?_) (fun hil=>?_);simp(disch:=omega)only[go_sem,gm,hb]
 ·refine Ae (f315_ok b) ?_;cases hw:b.ok
  ·have e:Dr l=false:=by simp[Dr,BI hb (show Fk l i b=false by simp[Fk,hw])]
   simp(disch:=omega)only[go_sem,zF,e];exact AQ _
  simp(disch:=omega)only[go_sem,zT,gm,hb];refine Ae (f153_ok l b.proc (by omega)) ?_;refine gO ?_;refine⟨fun h=>?_,fun h=>?_⟩
  ·have e:Dr l=false:=by simp[Dr,BI hb (show Fk l i b=false by simp at h;simp[Fk,h])]
   simp(disch:=omega)only[go_sem,e];exact AQ _
  ·refine hJ _ (i+1) ⟨by omega,(by rw[Cr hb,hP];simp at h;simp[Fk,hw,h])⟩ (by omega) AT
 ·subst hil;rw[tL]at hP;have e:Dr l=true:=by simp[Dr,hP];omega
  simp(disch:=omega)only[go_sem,e];exact AQ _
def EM(l:List Amt):List Bool:=(List.range 6).map fun k:Nat=>decide (k≠0)&&l.any fun a=>a.mode==((k:Nat):Int)
def XT:EM []=no6:=rfl
def RD(l:List Amt)(k:Nat)(hk:k<6):(EM l).getD k false=(decide (k≠0)&&l.any fun a=>a.mode==(k:Int)):=by
 simp[EM,List.getD,hk]
def NY(l:List Amt)(a:Amt)(h:a.mode=0):EM (l++[a])=EM l:=by
 unfold EM;refine List.map_congr_left fun k hk=>?_
 simp only[List.any_append,any_cons,any_nil,h]
 by_cases hk0:k=0
 ·simp[hk0]
 ·have:((0:Int)==(k:Int))=false:=by simp;omega
  simp[this]
def Wo(l:List Amt)(a:Amt)(h:Bi a.mode=true):EM (l++[a])=(EM l).set a.mode.toNat true:=by
 have hm:=AN h;refine List.ext_getElem (by simp[EM]) fun k h1 h2=>?_
 have hk:k<6:=by simpa [EM]using h1
 simp only[EM,List.getElem_map,List.getElem_range,List.any_append,any_cons,any_nil,List.getElem_set]
 by_cases hx:a.mode.toNat=k
 ·have e:(a.mode==(k:Int))=true:=by simp;omega
  rw[if_pos hx,e];have:decide (k≠0)=true:=by simp;omega
  simp[this]
 ·have e:(a.mode==(k:Int))=false:=by simp;omega
  rw[if_neg hx,e];simp
def ZN{l:List Amt}{m:Int}(h:∀ a∈l,a.mode≠0→BR m a.mode=true):Eu (EM l) m=true:=by
 unfold Eu;rw[List.all_eq_true];intro k hk;have hk6:k<6:=by simpa using hk
 rw[RD l k hk6]
 by_cases hk0:k=0
 ·simp[hk0]
 cases ha:l.any fun a=>a.mode==(k:Int)
 ·simp
 ·obtain⟨a,hm,he⟩:=List.any_eq_true.1 ha;have he':a.mode=k:=by simpa using he
  have:=h a hm (by omega);rw[he',Nk]at this;simp[this]
def XS{l:List Amt}{m:Int}{a:Amt}(hm:a∈l)(h0:Bi a.mode=true)(h:BR m a.mode=false):Eu (EM l) m=false:=by
 have hc:=AN h0;unfold Eu;rw[all_eq_false];refine⟨a.mode.toNat,by simp;omega,?_⟩;rw[RD l _ (by omega)];have e1:decide (a.mode.toNat≠0)=true:=by simp;omega
 have e2:((a.mode.toNat:Nat):Int)=a.mode:=by omega
 have e3:(l.any fun b=>b.mode==((a.mode.toNat:Nat):Int))=true:=by
  rw[List.any_eq_true];exact⟨a,hm,by simp[e2]⟩
 rw[e1,e3,e2,Nk,h];decide
def NT{r:Res}{a:Amt}(hk:r.kind=1)(h:r.permits a=true):a.Ax=0∧(a.mode=0∨Bi a.mode=true)∧a.zero=decide (a.mode=0):=by
 simp only[Res.permits,and_eq_true,or_eq_true,Res.fits,hk,if_true]at h;obtain⟨h1,h2|h2⟩:=h
 ·have hz:=h2;simp[Amt.zero]at h2;exact⟨h2.2,.inl h2.1,by rw[hz];simp[h2.1]⟩
 ·obtain⟨_,h3,h4⟩:=h2;have:=AN h3;simp at h4;exact⟨h4,.inr h3,by simp[Amt.zero,h4];rfl⟩
def Up{r:Res}{a:Amt}(hk:r.kind=2)(h:r.permits a=true):0≤a.Ax∧a.Ax≤8∧a.mode=0:=by
 have h':=I6 h;simp only[Res.permits,and_eq_true,or_eq_true,Res.fits,hk]at h;obtain⟨h1,h2|h2⟩:=h
 ·simp[Amt.zero]at h2;omega
 ·simp at h2;omega
def Wt{r:Res}(h:r.shaped=true):(r.kind=1∧r.Ax=1)∨r.kind=2:=by
 simp only[Res.shaped]at h;split at h
 ·simp at h;exact .inl ⟨by assumption,h⟩
 ·split at h
  ·exact .inr (by assumption)
  ·cases h
def f267_ok(r:Res)(l:List Amt)(hl:l.length≤1000000):Ad C0 267 [.agg r.c,Pd l] [] (B (r.compat l)) []:=by
 refine Ad.go f267 ?_;unfold f267;refine gO ?_;refine Ae (f250_ok r) ?_;cases hs:r.shaped
 ·have e:r.compat l=false:=by simp[Res.compat,hs]
  simp(disch:=omega)only[go_sem,zF,e];exact AQ _
 obtain⟨hu1,hu2⟩:=KD hs;have hkind:=Wt hs;have hcomp:r.compat l=BF r l 0 no6:=by simp[Res.compat,hs]
 simp(disch:=omega)only[go_sem,zT];refine Ac (α:=Nat × Int) (fun q=>⟨[(6,I q.1),(1,Pd l),(5,I q.2),(2,.ptr 128 0)],[(128,r.c)]⟩)
  (fun q=>q.1≤l.length∧(r.kind=1→q.2=0)∧0≤q.2∧q.2≤8∧(∀ a∈l.take q.1,r.permits a=true)∧BF r (l.drop q.1) q.2 (EM (l.take q.1))=BF r l 0 no6) (fun q=>l.length-q.1) (0,0) ⟨by simp,by simp,by simp,by simp,by simp,by simp[XT]⟩ ?_ ?_
 ·refine Imp.Ar ?_ ?_
  ·exact gI
  ·exact gI
 rintro⟨i,sum⟩ ⟨hi,hk1,hs0,hs8,hperm,hc⟩ J hJ
 replace hi:i≤l.length:=hi
 replace hk1:r.kind=1→sum=0:=hk1
 replace hs0:0≤sum:=hs0
 replace hs8:sum≤8:=hs8
 replace hperm:∀ a∈l.take i,r.permits a=true:=hperm
 replace hc:BF r (l.drop i) sum (EM (l.take i))=BF r l 0 no6:=hc
 refine gO ?_;refine ⟨fun hlt=>?_,fun hge=>?_⟩
 ·have hlt':i<l.length:=by simp at hlt;omega
  obtain⟨b,hb⟩:∃ b,l[i]?=some b:=⟨_,gE hlt'⟩;have hd:l.drop i=b::l.drop (i+1):=by
   rw[drop_eq_getElem_cons hlt'];rw[gE hlt']at hb;injection hb with hb
   rw[hb]
  have ht:l.take (i+1)=l.take i++[b]:=by rw[tA,hb];rfl
  rw[hd]at hc;simp only[BF]at hc;refine Aw 5 [([],[2]),([],[1]),([],[6]),([],[18,19]),([],[20])] fol ?_;simp(disch:=omega)only[go_sem,gm,hb];refine Ae (f289_ok r b) ?_;cases hp:r.permits b
  ·have e:r.compat l=false:=by rw[hcomp,← hc,hp];rfl
   simp(disch:=omega)only[go_sem,zF,e];exact AQ _
  obtain⟨hb0,hb8,hbm⟩:=I6 hp;have hperm':∀ a∈l.take (i+1),r.permits a=true:=fun a ha=>by
   rw[ht]at ha;rcases mem_append.1 ha with h|h
   ·exact hperm a h
   ·simp at h;rw[h];exact hp
  rw[hp]at hc
  by_cases hk2:r.kind=2
  ·have e2:(r.kind==2)=true:=by simp[hk2]
   obtain⟨_,_,hm⟩:=Up hk2 hp
   by_cases hgt:r.Ax<sum+b.Ax
   ·have e:r.compat l=false:=by rw[hcomp,← hc];simp[hgt]
    simp(disch:=omega)only[go_sem,zT,e2,gm,hb,hgt,e];exact AQ _
   simp(disch:=omega)only[go_sem,zT,e2,gm,hb,hgt,decide_false];refine hJ _ (i+1,sum+b.Ax) ⟨by simp;omega,by simp;omega,by simp;omega,by simp;omega,hperm',?_⟩ (by simp;omega) AT;simp only[ht];rw[NY _ _ hm];simpa [hgt,hm]using hc
  have hk1':r.kind=1:=by rcases hkind with h|h;exact h.1;exact absurd h hk2
  have hru:r.Ax=1:=by rcases hkind with h|h;exact h.2;exact absurd h hk2
  have e2:(r.kind==2)=false:=by simp[hk2]
  have hsum:=hk1 hk1';subst hsum;obtain⟨hbu,hbmm,hbz⟩:=NT hk1' hp;have hgt:¬ r.Ax<0+b.Ax:=by omega
  have hcs:(if b.mode=0 then BF r (l.drop (i+1)) 0 (EM (l.take i)) else Eu (EM (l.take i)) b.mode&&BF r (l.drop (i+1)) 0 ((EM (l.take i)).set b.mode.toNat true))=BF r l 0 no6:=by
   rw[hbu]at hc hgt;simp only[Int.add_zero]at hc hgt;rw[decide_eq_false hgt]at hc;exact hc
  simp(disch:=omega)only[go_sem,zT,e2];refine Ac (α:=Nat) (fun k=>⟨[(7,I k),(6,I i),(1,Pd l),(5,I 0),(2,.ptr 128 0)],[(128,r.c)]⟩)
   (fun k=>k≤i∧(b.mode=0∨∀ a∈l.take k,a.mode≠0→BR b.mode a.mode=true)) (fun k=>i-k) 0 ⟨by omega,.inr (by simp)⟩ ?_ ?_
  ·refine Imp.Ar ?_ ?_
   ·exact gI
   ·exact gI
  rintro k ⟨hk,hka⟩ J2 hJ2;refine gO ?_;refine And.intro (fun hlt3=>?_) (fun hge3=>?_)
  ·have hki:k<i:=by simp at hlt3;omega
   obtain⟨a,ha⟩:∃ a,l[k]?=some a:=⟨_,gE (by omega)⟩;have hak:l.take (k+1)=l.take k++[a]:=by rw[tA,ha];rfl
   have ham:a∈l.take i:=by
    rw[List.mem_take_iff_getElem];exact⟨k,by omega,by rw[gE (by omega)]at ha;injection ha⟩
   obtain⟨hau,hamm,haz⟩:=NT hk1' (hperm a ham);refine Aw 25 [([],[1]),([],[6]),([],[43,44]),([],[45]),([],[46]),([4],[47]),([4],[48]),([4],[1,49]),([4],[7,49]),([4],[50,51,49]),([4],[52,49]),([4],[53,49]),([4,11],[54,49]),([4,11],[49,55]),([4,11],[56]),([4,11],[1,57]),([4,11],[6,57]),([4,11],[58,59,57]),([4,11],[60,57]),([4,11],[61,57]),([4,11],[1,57]),([4,11],[7,57]),([4,11],[63,64,57]),([4,11],[65,57]),([4,11],[66,57])] fol ?_;simp(disch:=omega)only[go_sem,gm,hb,ha];refine Av (f162_ok b) ?_;rw[hbz]
   by_cases hbm0:b.mode=0
   ·simp(disch:=omega)only[go_sem,hbm0,decide_true,zT];refine hJ2 _ (k+1) ⟨by omega,.inl hbm0⟩ (by omega) AT
   simp(disch:=omega)only[go_sem,hbm0,decide_false,zF,gm,ha,hb];refine Av (f162_ok a) ?_;rw[haz]
   by_cases ham0:a.mode=0
   ·simp(disch:=omega)only[go_sem,ham0,decide_true,zT];refine hJ2 _ (k+1) ⟨by omega,?_⟩ (by omega) AT;rcases hka with h|h
    ·exact .inl h
    ·refine .inr fun x hx hx0=>?_
     rw[hak]at hx;rcases mem_append.1 hx with h'|h'
     ·exact h x h' hx0
     ·simp at h';rw[h']at hx0;exact absurd ham0 hx0
   simp(disch:=omega)only[go_sem,ham0,decide_false,zF,gm,hb,ha];refine Ae (f304_ok b.mode a.mode) ?_;have hamo:Bi a.mode=true:=by rcases hamm with h|h;exact absurd h ham0;exact h
   cases hcm:BR b.mode a.mode
   ·have e:r.compat l=false:=by
     rw[hcomp,← hcs,if_neg hbm0,XS ham hamo hcm];rfl
    simp(disch:=omega)only[go_sem,zF,e];exact AQ _
   ·simp(disch:=omega)only[go_sem,zT];refine hJ2 _ (k+1) ⟨by omega,?_⟩ (by omega) AT;rcases hka with h|h
    ·exact .inl h
    ·refine .inr fun x hx hx0=>?_
     rw[hak]at hx;rcases mem_append.1 hx with h'|h'
     ·exact h x h' hx0
     ·simp at h';rw[h'];exact hcm
  ·have hki:k=i:=by simp at hge3;omega
   subst hki;refine hJ _ (k+1,0) ⟨by simp;omega,by simp,by simp,by simp,hperm',?_⟩ (by simp;omega) AT;simp only[ht]
   by_cases hbm0:b.mode=0
   ·rw[NY _ _ hbm0]
    rwa [if_pos hbm0]at hcs
   ·have hbo:Bi b.mode=true:=by rcases hbmm with h|h;exact absurd h hbm0;exact h
    rw[Wo _ _ hbo];rw[if_neg hbm0]at hcs;have hso:Eu (EM (l.take k)) b.mode=true:=ZN (by rcases hka with h|h;exact absurd h hbm0;exact h)
    rwa [hso,Bool.true_and]at hcs
 ·have hil:i=l.length:=by simp at hge;omega
  subst hil;rw[drop_length]at hc;have e:r.compat l=true:=by rw[hcomp,← hc];rfl
  simp(disch:=omega)only[go_sem,e];exact AQ _
def f253_ok(r:Res)(a b:Amt):Ad C0 253 [.agg r.c,.agg a.c,.agg b.c] [] (B (r.covers a b)) []:=by
 refine Ad.go f253 ?_;unfold f253;simp(disch:=omega)only[go_sem]
 repeat'(first
  |(with_reducible refine And.intro (fun h=>?_) (fun h=>?_))
  |((with_reducible show AW _ _ 289 _ _ _);refine Ah (f289_ok r a) ?_ rfl ?_;(focus(simp(disch:=omega)only[go_sem];done));try simp(disch:=omega)only[go_sem])
  |((with_reducible show AW _ _ 289 _ _ _);refine Ah (f289_ok r b) ?_ rfl ?_;(focus(simp(disch:=omega)only[go_sem];done));try simp(disch:=omega)only[go_sem])
  |((with_reducible show AW _ _ 162 _ _ _);refine Ah (f162_ok a) ?_ rfl ?_;(focus(simp(disch:=omega)only[go_sem];done));try simp(disch:=omega)only[go_sem])
  |((with_reducible show AW _ _ 162 _ _ _);refine Ah (f162_ok b) ?_ rfl ?_;(focus(simp(disch:=omega)only[go_sem];done));try simp(disch:=omega)only[go_sem])
  |((with_reducible show AW _ _ 287 _ _ _);refine Ah (f287_ok a.mode b.mode) ?_ rfl ?_;(focus(simp(disch:=omega)only[go_sem];done));try simp(disch:=omega)only[go_sem]))
 all_goals(refine Cn _ ?_)
 all_goals(try simp(disch:=omega)only[go_sem])
 all_goals(first|refine wb ?_|refine wi ?_|refine .eq ?_)
 all_goals(first|(simp_all[Res.covers]<;>omega)|(refine Bool.eq_iff_iff.2 ?_;simp_all[Res.covers]<;>omega))
def Hc(q:Queue)(i:Nat)(w:AP):Bool:=decide (Fv q.Ao w.proc=(i:Int))&&!(At q.holds w.proc).zero&&q.res.fits w.amt&&q.res.covers w.amt (At q.holds w.proc)&&!decide (w.amt=At q.holds w.proc)&&w.prio==0&&w.CQ==0
def Ei(q:Queue):Bool:=decide (q.Ao.length≤8)&&Ca (Hc q) q.Ao
def Hg(q:Queue)(w:AP):Bool:=q.res.fits w.amt&&(At q.holds w.proc).zero
def El(q:Queue):Bool:=Dr q.waits&&decide (q.holds.length+q.waits.length≤8)&&q.waits.all (Hg q)
def GO(r:Res):Bool:=BM r.name&&r.shaped&&AI r.home 0 3
def sound(q:Queue):Bool:=GO q.res&&Bf q.res q.holds&&Ei q&&El q&&decide (0≤q.gen)&&decide (q.gen≤1073741824)
def f278_ok(q:Queue)(h1:q.holds.length≤1000000):Ad C0 278 [.agg q.c] [] (B (Ei q)) []:=by
 refine Ad.go f278 ?_;unfold f278
 by_cases h8:8<q.Ao.length
 ·have e1:(8<(q.Ao.length:Int))=True:=by simp;omega
  simp(disch:=omega)only[go_sem,e1];refine As _ ?_;exact .eq (by simp[Ei];omega)
 have e1:(8<(q.Ao.length:Int))=False:=by simp;omega
 simp(disch:=omega)only[go_sem,e1,decide_false];refine Ac (α:=Nat) (fun i=>⟨[(13,I i),(12,I q.Ao.length),(11,Be q.Ao),(1,.ptr 64 0)],[(64,q.c)]⟩) (fun i=>i≤(q.Ao).length∧Ca (Hc q) (q.Ao.take i)=true) (fun i=>(q.Ao).length-i) 0 ⟨by omega,rfl⟩ ?_ ?_
 ·exact B0
 rintro i ⟨hi,hP⟩ J hJ;refine gO ?_;refine gR (l:=q.Ao) hi (fun b hb hbm hlt=>?_) (fun hil=>?_);simp(disch:=omega)only[go_sem,gm,hb]
 ·have bad:Hc q i b=false→Ei q=false:=fun h=>by simp[Ei,BI hb h]
  repeat'(first
   |(with_reducible refine And.intro (fun h=>?_) (fun h=>?_))
   |((with_reducible show AW _ _ 309 _ _ _);refine Ah (f309_ok q b.proc h1) ?_ rfl ?_;(focus(simp(disch:=omega)only[go_sem];done));try simp(disch:=omega)only[go_sem])
   |((with_reducible show AU _ _ 309 _ _ _ _ _ _ _);refine Az ⟨⟨[],[],[]⟩,[],[]⟩ (f309_ok q b.proc h1) ?_ rfl rfl trivial (.inl rfl) ?_;(focus(simp(disch:=omega)only[go_sem];done));try simp(disch:=omega)only[go_sem])
   |((with_reducible show AW _ _ 310 _ _ _);refine Ah (f310_ok q.Ao b.proc (by omega)) ?_ rfl ?_;(focus(simp(disch:=omega)only[go_sem];done));try simp(disch:=omega)only[go_sem])
   |((with_reducible show AU _ _ 310 _ _ _ _ _ _ _);refine Az ⟨⟨[],[],[]⟩,[],[]⟩ (f310_ok q.Ao b.proc (by omega)) ?_ rfl rfl trivial (.inl rfl) ?_;(focus(simp(disch:=omega)only[go_sem];done));try simp(disch:=omega)only[go_sem])
   |((with_reducible show AW _ _ 264 _ _ _);refine Ah (f264_ok (At q.holds b.proc)) ?_ rfl ?_;(focus(simp(disch:=omega)only[go_sem];done));try simp(disch:=omega)only[go_sem])
   |((with_reducible show AU _ _ 264 _ _ _ _ _ _ _);refine Az ⟨⟨[],[],[]⟩,[],[]⟩ (f264_ok (At q.holds b.proc)) ?_ rfl rfl trivial (.inl rfl) ?_;(focus(simp(disch:=omega)only[go_sem];done));try simp(disch:=omega)only[go_sem])
   |((with_reducible show AW _ _ 281 _ _ _);refine Ah (f281_ok q.res b.amt) ?_ rfl ?_;(focus(simp(disch:=omega)only[go_sem];done));try simp(disch:=omega)only[go_sem])
   |((with_reducible show AU _ _ 281 _ _ _ _ _ _ _);refine Az ⟨⟨[],[],[]⟩,[],[]⟩ (f281_ok q.res b.amt) ?_ rfl rfl trivial (.inl rfl) ?_;(focus(simp(disch:=omega)only[go_sem];done));try simp(disch:=omega)only[go_sem])
   |((with_reducible show AW _ _ 311 _ _ _);refine Ah (f311_ok q.res b.amt (At q.holds b.proc)) ?_ rfl ?_;(focus(simp(disch:=omega)only[go_sem];done));try simp(disch:=omega)only[go_sem])
   |((with_reducible show AU _ _ 311 _ _ _ _ _ _ _);refine Az ⟨⟨[],[],[]⟩,[],[]⟩ (f311_ok q.res b.amt (At q.holds b.proc)) ?_ rfl rfl trivial (.inl rfl) ?_;(focus(simp(disch:=omega)only[go_sem];done));try simp(disch:=omega)only[go_sem]))
  all_goals(first|(refine hJ _ (i+1) ⟨by omega,by rw[Cr hb,hP];simp_all[Hc]⟩ (by omega) AT;done)|(refine Cn _ ?_;simp(disch:=omega)only[go_sem];refine wb ?_;(rw[bad (by simp_all[Hc])])))
 ·subst hil;rw[tL]at hP;have e:Ei q=true:=by simp[Ei,hP];omega
  simp(disch:=omega)only[go_sem,e];exact AQ _
def f279_ok(q:Queue)(h1:q.holds.length≤1000000)(h2:q.waits.length≤1000000):Ad C0 279 [.agg q.c] [] (B (El q)) []:=by
 refine Ad.go f279 ?_;unfold f279;refine gO ?_;refine Ae (f312_ok q.waits) ?_;cases hl:Dr q.waits
 ·simp(disch:=omega)only[go_sem,zF];refine As _ ?_;exact wb (by simp[El,hl])
 by_cases h8:8<q.holds.length+q.waits.length
 ·have e1:(8<(q.holds.length:Int)+q.waits.length)=True:=by simp;omega
  simp(disch:=omega)only[go_sem,e1,zT];refine As _ ?_;exact wb (by simp[El];omega)
 have e1:(8<(q.holds.length:Int)+q.waits.length)=False:=by simp;omega
 simp(disch:=omega)only[go_sem,e1,decide_false,zT];refine Ac (α:=Nat) (fun i=>⟨[(22,I i),(21,I q.waits.length),(20,Be q.waits),(1,.ptr 64 0)],[(64,q.c)]⟩) (fun i=>i≤(q.waits).length∧(q.waits.take i).all (Hg q)=true) (fun i=>(q.waits).length-i) 0 ⟨by omega,rfl⟩ ?_ ?_
 ·exact B0
 rintro i ⟨hi,hP⟩ J hJ;refine gO ?_;refine gR (l:=q.waits) hi (fun b hb hbm hlt=>?_) (fun hil=>?_);simp(disch:=omega)only[go_sem,gm,hb]
 ·have bad:Hg q b=false→El q=false:=fun h=>by simp only[El,all_false hbm h,Bool.and_false]
  repeat'(first
   |(with_reducible refine And.intro (fun h=>?_) (fun h=>?_))
   |((with_reducible show AW _ _ 281 _ _ _);refine Ah (f281_ok q.res b.amt) ?_ rfl ?_;(focus(simp(disch:=omega)only[go_sem];done));try simp(disch:=omega)only[go_sem])
   |((with_reducible show AU _ _ 281 _ _ _ _ _ _ _);refine Az ⟨⟨[],[],[]⟩,[],[]⟩ (f281_ok q.res b.amt) ?_ rfl rfl trivial (.inl rfl) ?_;(focus(simp(disch:=omega)only[go_sem];done));try simp(disch:=omega)only[go_sem])
   |((with_reducible show AW _ _ 309 _ _ _);refine Ah (f309_ok q b.proc h1) ?_ rfl ?_;(focus(simp(disch:=omega)only[go_sem];done));try simp(disch:=omega)only[go_sem])
   |((with_reducible show AU _ _ 309 _ _ _ _ _ _ _);refine Az ⟨⟨[],[],[]⟩,[],[]⟩ (f309_ok q b.proc h1) ?_ rfl rfl trivial (.inl rfl) ?_;(focus(simp(disch:=omega)only[go_sem];done));try simp(disch:=omega)only[go_sem])
   |((with_reducible show AW _ _ 264 _ _ _);refine Ah (f264_ok (At q.holds b.proc)) ?_ rfl ?_;(focus(simp(disch:=omega)only[go_sem];done));try simp(disch:=omega)only[go_sem])
   |((with_reducible show AU _ _ 264 _ _ _ _ _ _ _);refine Az ⟨⟨[],[],[]⟩,[],[]⟩ (f264_ok (At q.holds b.proc)) ?_ rfl rfl trivial (.inl rfl) ?_;(focus(simp(disch:=omega)only[go_sem];done));try simp(disch:=omega)only[go_sem]))
  all_goals(first|(refine hJ _ (i+1) ⟨by omega,by rw[Qr hb,hP];simp_all[Hg]⟩ (by omega) AT;done)|(refine Cn _ ?_;simp(disch:=omega)only[go_sem];refine wb ?_;(rw[bad (by simp_all[Hg])])))
 ·subst hil;rw[tL]at hP;have e:El q=true:=by simp only[El,hl,hP];simp;omega
  simp(disch:=omega)only[go_sem,e];exact AQ _
def f236_ok(q:Queue)(h1:q.holds.length≤1000000)(h2:q.waits.length≤1000000):Ad C0 236 [.agg q.c] [] (B (sound q)) []:=by
 refine Ad.go f236 ?_;unfold f236;simp(disch:=omega)only[go_sem]
 repeat'(first
  |(with_reducible refine And.intro (fun h=>?_) (fun h=>?_))
  |((with_reducible show AW _ _ 276 _ _ _);refine Ah (f276_ok q.res) ?_ rfl ?_;(focus(simp(disch:=omega)only[go_sem];done));try simp(disch:=omega)only[go_sem])
  |((with_reducible show AU _ _ 276 _ _ _ _ _ _ _);refine Az ⟨⟨[],[],[]⟩,[],[]⟩ (f276_ok q.res) ?_ rfl rfl trivial (.inl rfl) ?_;(focus(simp(disch:=omega)only[go_sem];done));try simp(disch:=omega)only[go_sem])
  |((with_reducible show AW _ _ 277 _ _ _);refine Ah (f277_ok q.res q.holds) ?_ rfl ?_;(focus(simp(disch:=omega)only[go_sem];done));try simp(disch:=omega)only[go_sem])
  |((with_reducible show AU _ _ 277 _ _ _ _ _ _ _);refine Az ⟨⟨[],[],[]⟩,[],[]⟩ (f277_ok q.res q.holds) ?_ rfl rfl trivial (.inl rfl) ?_;(focus(simp(disch:=omega)only[go_sem];done));try simp(disch:=omega)only[go_sem])
  |((with_reducible show AW _ _ 278 _ _ _);refine Ah (f278_ok q h1) ?_ rfl ?_;(focus(simp(disch:=omega)only[go_sem];done));try simp(disch:=omega)only[go_sem])
  |((with_reducible show AU _ _ 278 _ _ _ _ _ _ _);refine Az ⟨⟨[],[],[]⟩,[],[]⟩ (f278_ok q h1) ?_ rfl rfl trivial (.inl rfl) ?_;(focus(simp(disch:=omega)only[go_sem];done));try simp(disch:=omega)only[go_sem])
  |((with_reducible show AW _ _ 279 _ _ _);refine Ah (f279_ok q h1 h2) ?_ rfl ?_;(focus(simp(disch:=omega)only[go_sem];done));try simp(disch:=omega)only[go_sem])
  |((with_reducible show AU _ _ 279 _ _ _ _ _ _ _);refine Az ⟨⟨[],[],[]⟩,[],[]⟩ (f279_ok q h1 h2) ?_ rfl rfl trivial (.inl rfl) ?_;(focus(simp(disch:=omega)only[go_sem];done));try simp(disch:=omega)only[go_sem]))
 all_goals(refine Cn _ ?_)
 all_goals(try simp(disch:=omega)only[go_sem])
 all_goals(refine wb ?_)
 all_goals(simp_all[sound,GO]<;>omega)
def f265_ok(r:Res)(l:List AK)(hl:l.length≤1000000):Ad C0 265 [.agg r.c,AL l] [] (B (Bf r l)) []:=by
 refine Ad.go f265 ?_;unfold f265;refine gO ?_;refine Ae (f250_ok r) ?_;cases hs:r.shaped
 ·have e:Bf r l=false:=by simp[Bf,hs]
  simp(disch:=omega)only[go_sem,zF,e];exact AQ _
 by_cases h8:8<l.length
 ·have e1:(8<(l.length:Int))=True:=by simp;omega
  have e:Bf r l=false:=by simp[Bf];omega
  simp(disch:=omega)only[go_sem,zT,e1,e];exact AQ _
 have e1:(8<(l.length:Int))=False:=by simp;omega
 simp(disch:=omega)only[go_sem,zT,e1,decide_false];refine Ac (α:=Nat) (fun i=>⟨[(5,I i),(1,AL l),(2,.ptr 128 0)],[(128,r.c)]⟩) (fun i=>i≤(l).length∧Ca (Ej r l) (l.take i)=true) (fun i=>(l).length-i) 0 ⟨by omega,rfl⟩ ?_ ?_
 ·exact B0
 rintro i ⟨hi,hP⟩ J hJ;refine gO ?_;refine gR (l:=l) hi (fun b hb hbm hlt=>?_) (fun hil=>?_);refine Aw 32 [([],[1]),([],[5]),([],[20,21]),([],[22]),([],[23]),([],[24]),([5],[25]),([5],[26]),([5],[2,27]),([5],[1,27]),([5],[5,27]),([5],[29,30,27]),([5],[31,27]),([5],[32,27]),([5],[28,33,27]),([5,14],[34,27]),([5,14],[27,35]),([5,14],[36]),([5,14],[5,37]),([5,14],[38,37]),([5,14],[39,37]),([5,14],[1,40]),([5,14],[5,40]),([5,14],[42,40]),([5,14],[41,43,40]),([5,14],[44,40]),([5,14],[45,40]),([5,14],[1,40]),([5,14],[5,40]),([5,14],[47,48,40]),([5,14],[49,40]),([5,14],[50,40])] fol ?_;simp(disch:=omega)only[go_sem,gm,hb]
 ·have bad:Ej r l i b=false→Bf r l=false:=fun h=>by simp[Bf,BI hb h]
  refine Av (f105_ok b.proc) ?_;cases hp:b.proc.ok
  ·simp(disch:=omega)only[go_sem,zF,bad (by simp[Ej,hp])];exact AQ _
  simp(disch:=omega)only[go_sem,zT,gm,hb];refine Av (f171_ok r b.amt) ?_;cases hf:r.fits b.amt
  ·simp(disch:=omega)only[go_sem,zF,bad (by simp[Ej,hf])];exact AQ _
  by_cases hi0:i=0
  ·have e0:(0<(i:Int))=False:=by simp;omega
   simp(disch:=omega)only[go_sem,zT,e0,decide_false];refine hJ _ (i+1) ⟨by omega,(by rw[Cr hb,hP];simp only[Ej,hp,hf,hi0];rfl)⟩ (by omega) AT
  ·have hi1:(0<(i:Int))=True:=by simp;omega
   have hi2:((i:Int)-1)=((i-1:Nat):Int):=by omega
   obtain⟨a,ha⟩:∃ a,l[i-1]?=some a:=⟨_,gE (by omega)⟩;have had:l.getD (i-1) h0=a:=by simp[List.getD,ha]
   simp(disch:=omega)only[go_sem,zT,hi1,hi2,gm,ha,hb];refine Ae (f107_ok a.proc b.proc) ?_;refine gO ?_
   by_cases hc:0≤Bc a.proc b.proc
   ·have e:Bf r l=false:=bad (by simp only[Ej,had];simp[hi0];omega);simp(disch:=omega)only[go_sem,hc,e];exact AQ _
   ·simp(disch:=omega)only[go_sem,hc,decide_false];refine hJ _ (i+1) ⟨by omega,(by rw[Cr hb,hP];simp only[Ej,hp,hf,had];simp;omega)⟩ (by omega) AT
 ·subst hil;rw[tL]at hP;have ee:Bf r l=r.compat (l.map (·.amt)):=by simp[Bf,hs,hP];omega
  refine Aw 3 [([],[2]),([],[1]),([],[57])] fol ?_;refine gO ?_;refine Av (f303_ok l hl) ?_;refine gO ?_;refine Ah (f267_ok r (l.map (·.amt)) (by simp;omega)) (by simp(disch:=omega)only[go_sem];exact .eq (by simp)) rfl ?_;refine gO ?_;refine As _ ?_;exact wb ee.symm
def f242_ok(q:Queue)(h1:q.holds.length≤1000000)(h2:q.waits.length≤1000000):Ad C0 242 [.agg q.c] [] (B (sound q)) []:=by
 refine Ad.go f242 ?_;unfold f242
 by_cases hgo:GO q.res=true∧Bf q.res q.holds=true∧q.Ao.length≤8∧Dr q.waits=true∧q.holds.length+q.waits.length≤8∧0≤q.gen∧q.gen≤1073741824
 rotate_left
 ·simp(disch:=omega)only[go_sem]
  repeat'(first
   |(with_reducible refine And.intro (fun h=>?_) (fun h=>?_))
   |((with_reducible show AW _ _ 246 _ _ _);refine Ah (f246_ok q.res) ?_ rfl ?_;(focus(simp(disch:=omega)only[go_sem];done));try simp(disch:=omega)only[go_sem])
   |((with_reducible show AU _ _ 246 _ _ _ _ _ _ _);refine Az ⟨⟨[],[],[]⟩,[],[]⟩ (f246_ok q.res) ?_ rfl rfl trivial (.inl rfl) ?_;(focus(simp(disch:=omega)only[go_sem];done));try simp(disch:=omega)only[go_sem])
   |((with_reducible show AW _ _ 265 _ _ _);refine Ah (f265_ok q.res q.holds h1) ?_ rfl ?_;(focus(simp(disch:=omega)only[go_sem];done));try simp(disch:=omega)only[go_sem])
   |((with_reducible show AU _ _ 265 _ _ _ _ _ _ _);refine Az ⟨⟨[],[],[]⟩,[],[]⟩ (f265_ok q.res q.holds h1) ?_ rfl rfl trivial (.inl rfl) ?_;(focus(simp(disch:=omega)only[go_sem];done));try simp(disch:=omega)only[go_sem])
   |((with_reducible show AW _ _ 282 _ _ _);refine Ah (f282_ok q.waits h2) ?_ rfl ?_;(focus(simp(disch:=omega)only[go_sem];done));try simp(disch:=omega)only[go_sem])
   |((with_reducible show AU _ _ 282 _ _ _ _ _ _ _);refine Az ⟨⟨[],[],[]⟩,[],[]⟩ (f282_ok q.waits h2) ?_ rfl rfl trivial (.inl rfl) ?_;(focus(simp(disch:=omega)only[go_sem];done));try simp(disch:=omega)only[go_sem]))
  all_goals first
   |(refine Cn _ ?_
     refine gO ?_;refine wb ?_
     first|(simp_all[sound,GO,Ei,El];done)|(simp_all[sound,GO,Ei,El];omega))
   |(exfalso;refine hgo ?_;simp_all[GO];omega)
 obtain⟨g1,g2,g3,g4,g5,g6,g7⟩:=hgo;have d1:(8<(q.Ao.length:Int))=False:=by simp;omega
 have d2:(8<(q.holds.length:Int)+q.waits.length)=False:=by simp;omega
 have d3:(q.gen<0)=False:=by simp;omega
 have d4:(1073741824<q.gen)=False:=by simp;omega
 refine gO ?_;refine Ae (f246_ok q.res) ?_;have g1':(BM q.res.name&&q.res.shaped&&AI q.res.home 0 3)=true:=g1;rw[g1'];simp(disch:=omega)only[go_sem,zT];refine Ae (f265_ok q.res q.holds h1) ?_;rw[g2];simp(disch:=omega)only[go_sem,zT,d1,decide_false];refine Ae (f282_ok q.waits h2) ?_;rw[g4];simp(disch:=omega)only[go_sem,zT,d2,d3,d4,decide_false];refine Ac (α:=Nat) (fun i=>⟨[(4,I i),(1,.ptr 64 0),(3,.ptr 192 0)],[(64,q.c),(192,q.res.c)]⟩) (fun i=>i≤(q.Ao).length∧Ca (Hc q) (q.Ao.take i)=true) (fun i=>(q.Ao).length-i) 0 ⟨by omega,rfl⟩ ?_ ?_
 ·exact B0
 rintro i ⟨hi,hP⟩ J hJ;refine gO ?_;refine gR (l:=q.Ao) hi (fun b hb hbm hlt=>?_) (fun hil=>?_);simp(disch:=omega)only[go_sem,gm,hb]
 ·have bad:Hc q i b=false→sound q=false:=fun h=>by simp[sound,Ei,BI hb h]
  repeat'(first
   |(with_reducible refine And.intro (fun h=>?_) (fun h=>?_))
   |((with_reducible show AW _ _ 244 _ _ _);refine Ah (f244_ok q.holds b.proc h1) ?_ rfl ?_;(focus(simp(disch:=omega)only[go_sem];done));try simp(disch:=omega)only[go_sem])
   |((with_reducible show AU _ _ 244 _ _ _ _ _ _ _);refine Az ⟨⟨[],[],[]⟩,[],[]⟩ (f244_ok q.holds b.proc h1) ?_ rfl rfl trivial (.inl rfl) ?_;(focus(simp(disch:=omega)only[go_sem];done));try simp(disch:=omega)only[go_sem])
   |((with_reducible show AW _ _ 162 _ _ _);refine Ah (f162_ok (At q.holds b.proc)) ?_ rfl ?_;(focus(simp(disch:=omega)only[go_sem];done));try simp(disch:=omega)only[go_sem])
   |((with_reducible show AU _ _ 162 _ _ _ _ _ _ _);refine Az ⟨⟨[],[],[]⟩,[],[]⟩ (f162_ok (At q.holds b.proc)) ?_ rfl rfl trivial (.inl rfl) ?_;(focus(simp(disch:=omega)only[go_sem];done));try simp(disch:=omega)only[go_sem])
   |((with_reducible show AW _ _ 171 _ _ _);refine Ah (f171_ok q.res b.amt) ?_ rfl ?_;(focus(simp(disch:=omega)only[go_sem];done));try simp(disch:=omega)only[go_sem])
   |((with_reducible show AU _ _ 171 _ _ _ _ _ _ _);refine Az ⟨⟨[],[],[]⟩,[],[]⟩ (f171_ok q.res b.amt) ?_ rfl rfl trivial (.inl rfl) ?_;(focus(simp(disch:=omega)only[go_sem];done));try simp(disch:=omega)only[go_sem])
   |((with_reducible show AW _ _ 253 _ _ _);refine Ah (f253_ok q.res b.amt (At q.holds b.proc)) ?_ rfl ?_;(focus(simp(disch:=omega)only[go_sem];done));try simp(disch:=omega)only[go_sem])
   |((with_reducible show AU _ _ 253 _ _ _ _ _ _ _);refine Az ⟨⟨[],[],[]⟩,[],[]⟩ (f253_ok q.res b.amt (At q.holds b.proc)) ?_ rfl rfl trivial (.inl rfl) ?_;(focus(simp(disch:=omega)only[go_sem];done));try simp(disch:=omega)only[go_sem])
   |((with_reducible show AW _ _ 153 _ _ _);refine Ah (f153_ok q.Ao b.proc (by omega)) ?_ rfl ?_;(focus(simp(disch:=omega)only[go_sem];done));try simp(disch:=omega)only[go_sem])
   |((with_reducible show AU _ _ 153 _ _ _ _ _ _ _);refine Az ⟨⟨[],[],[]⟩,[],[]⟩ (f153_ok q.Ao b.proc (by omega)) ?_ rfl rfl trivial (.inl rfl) ?_;(focus(simp(disch:=omega)only[go_sem];done));try simp(disch:=omega)only[go_sem]))
  all_goals(first|(refine hJ _ (i+1) ⟨by omega,by rw[Cr hb,hP];simp_all[Hc]⟩ (by omega) AT;done)|(refine Cn _ ?_;simp(disch:=omega)only[go_sem];refine wb ?_;(rw[bad (by simp_all[Hc])])))
 subst hil;rw[tL]at hP;have hconvs:Ei q=true:=by simp[Ei,hP];omega
 clear hJ;refine Ac (α:=Nat) (fun i=>⟨[(7,I i),(1,.ptr 64 0),(3,.ptr 192 0)],[(64,q.c),(192,q.res.c)]⟩) (fun i=>i≤(q.waits).length∧(q.waits.take i).all (Hg q)=true) (fun i=>(q.waits).length-i) 0 ⟨by omega,rfl⟩ ?_ ?_
 ·exact B0
 rintro i ⟨hi,hP⟩ J hJ;refine gO ?_;refine gR (l:=q.waits) hi (fun b hb hbm hlt=>?_) (fun hil=>?_);refine Aw 18 [([],[3]),([],[1]),([],[119]),([],[7]),([],[120,121]),([],[122]),([],[123]),([],[118,124]),([7],[125]),([7],[126]),([7],[1,127]),([7],[128,127]),([7],[1,127]),([7],[130,127]),([7],[7,127]),([7],[131,132,127]),([7],[133,127]),([7],[134,127])] fol ?_;simp(disch:=omega)only[go_sem,gm,hb]
 ·have bad:Hg q b=false→sound q=false:=fun h=>by simp only[sound,El,all_false hbm h,Bool.and_false,Bool.false_and]
  repeat'(first
   |(with_reducible refine And.intro (fun h=>?_) (fun h=>?_))
   |((with_reducible show AW _ _ 171 _ _ _);refine Ah (f171_ok q.res b.amt) ?_ rfl ?_;(focus(simp(disch:=omega)only[go_sem];done));try simp(disch:=omega)only[go_sem,gm,hb])
   |((with_reducible show AU _ _ 171 _ _ _ _ _ _ _);refine Az ⟨⟨[],[],[]⟩,[],[]⟩ (f171_ok q.res b.amt) ?_ rfl rfl trivial (.inl rfl) ?_;(focus(simp(disch:=omega)only[go_sem];done));try simp(disch:=omega)only[go_sem,gm,hb])
   |((with_reducible show AW _ _ 244 _ _ _);refine Ah (f244_ok q.holds b.proc h1) ?_ rfl ?_;(focus(simp(disch:=omega)only[go_sem];done));try simp(disch:=omega)only[go_sem,gm,hb])
   |((with_reducible show AU _ _ 244 _ _ _ _ _ _ _);refine Az ⟨⟨[],[],[]⟩,[],[]⟩ (f244_ok q.holds b.proc h1) ?_ rfl rfl trivial (.inl rfl) ?_;(focus(simp(disch:=omega)only[go_sem];done));try simp(disch:=omega)only[go_sem,gm,hb])
   |((with_reducible show AW _ _ 162 _ _ _);refine Ah (f162_ok (At q.holds b.proc)) ?_ rfl ?_;(focus(simp(disch:=omega)only[go_sem];done));try simp(disch:=omega)only[go_sem,gm,hb])
   |((with_reducible show AU _ _ 162 _ _ _ _ _ _ _);refine Az ⟨⟨[],[],[]⟩,[],[]⟩ (f162_ok (At q.holds b.proc)) ?_ rfl rfl trivial (.inl rfl) ?_;(focus(simp(disch:=omega)only[go_sem];done));try simp(disch:=omega)only[go_sem,gm,hb]))
  all_goals(first|(refine hJ _ (i+1) ⟨by omega,by rw[Qr hb,hP];simp_all[Hg]⟩ (by omega) AT;done)|(refine Cn _ ?_;simp(disch:=omega)only[go_sem];refine wb ?_;(rw[bad (by simp_all[Hg])])))
 ·subst hil;rw[tL]at hP;refine As _ ?_;exact wb (by simp only[sound,El,hconvs,hP,g1,g2,g4];simp;omega)
attribute [go_sem] isSome_none isSome_some
@[go_sem] theorem fY(k:Nat):((k:Int)+1).toNat=k+1:=rfl
@[go_sem] theorem eF(k:Nat):(0≤(k:Int)+1)=True:=by simp;omega
def AA(l:List AK)(p:Ab):List AK:=l.filter fun h=>decide (h.proc≠p)
def after'(p:Ab)(h:AK):Bool:=decide (0<Bc h.proc p)
def IH(l:List AK)(p:Ab):Int:=match l.findIdx? (after' p) with
 |some i=>i
 |none=>-1
def Cu(l:List AK)(p:Ab):Nat:=(l.findIdx? (after' p)).getD l.length
def B5(l:List AK)(p:Ab)(a:Amt):List AK:=if a.zero then AA l p else (AA l p).take (Cu (AA l p) p)++⟨p,a⟩::(AA l p).drop (Cu (AA l p) p)
def L6(l:List AK)(p:Ab):Cu l p≤l.length:=by
 unfold Cu;cases h:l.findIdx? (after' p) with
 |none=>simp
 |some i =>
  have:=(List.findIdx?_eq_some_iff_getElem.1 h).1;simp;omega
def V7(l:List AK)(p:Ab)(h:AK):IH (l++[h]) p=if IH l p<0∧after' p h=true then (l.length:Int) else IH l p:=by
 unfold IH;rw[List.findIdx?_append];cases hl:l.findIdx? (after' p) with
 |some i=>simp;omega
 |none =>
  simp only[Option.none_or,List.findIdx?_cons];cases after' p h<;>simp
def XI(r:List (List AV))(z c:List AV)(k:Nat)(hk:k≤r.length):(over 0 (k+1) (((r++[z]).drop k).take ((r++[z]).length-(k+1))) (r++[z])).set k c=r.take k++c::r.drop k:=by
 refine List.ext_getElem? fun i=>?_
 rw[List.getElem?_set];simp only[Hw,List.length_append,List.length_cons,length_nil]
 by_cases hi:k=i
 ·subst hi;rw[if_pos rfl,if_pos (by omega),List.getElem?_append_right (by simp;omega)];simp[Nat.min_eq_left hk]
 rw[if_neg hi];simp only[over,List.getElem?_mapIdx,Nat.zero_add]
 by_cases hlt:i<k
 ·rw[List.getElem?_append_left (by omega),List.getElem?_append_left (by simp;omega),List.getElem?_take (l:=r),if_pos hlt];have hn:¬ (k+1≤i):=by omega
  cases r[i]?<;>simp[hn]
 ·by_cases hle:i≤r.length
  ·rw[List.getElem?_append_right (l₁:=r.take k) (by simp;omega)];simp only[List.length_take,Nat.min_eq_left hk];obtain⟨j,rfl⟩:∃ j,i=k+1+j:=⟨i-(k+1),by omega⟩;rw[show k+1+j-k=j+1 by omega,List.getElem?_cons_succ,List.getElem?_drop];have e1:(r++[z])[k+1+j]?=some ((r++[z])[k+1+j]'(by simp;omega)):=gE _;rw[e1];simp only[map_some,show k+1≤k+1+j by omega,if_true,show k+1+j-(k+1)=j by omega];rw[List.getElem?_take,if_pos (by omega),List.getElem?_drop,List.getElem?_append_left (by omega)];rw[gE (by omega)];simp
  ·have e2:(r.take k++c::r.drop k)[i]?=none:=List.getElem?_eq_none (by simp;omega);rw[List.getElem?_eq_none (l:=r++[z]) (by simp;omega),e2];rfl
def z5:List AV:=[.v (.int .i64 0),.v (.int .i64 0),.v (.int .i64 0),.v (.int .i64 0),.v (.int .i64 0)]
def f203_ok(l:List AK)(p:Ab)(a:Amt)(hl:l.length≤1000000):Ad C0 203 [AL l,.agg p.c,.agg a.c] [] (AL (B5 l p a)) []:=by
 refine Ad.go f203 ?_;unfold f203;have hcap:((l.length:Int)+1≤4294967296)=True:=by simp;omega
 simp(disch:=omega)only[go_sem,hcap];refine Ac (α:=Nat) (fun i=>⟨[(17,I i),(16,I l.length),(15,AL l),(7,.sl (.own 2496 0) 5 ((AA (l.take i) p).map AK.c)),(8,I (IH (AA (l.take i) p) p)),(4,.ptr 256 0),(5,.ptr 320 0)],[(256,p.c),(320,a.c)]⟩) (fun i=>i≤(l).length∧(AA (l.take i) p).length≤i) (fun i=>(l).length-i) 0 ⟨by omega,(by simp[AA])⟩ ?_ ?_
 ·refine Imp.ren ⟨[(896,2496)],[(256,256),(320,320)],[]⟩ ⟨rfl,rfl⟩ (by simp[lk]) ?_ ?_
  all_goals(try simp(disch:=omega)only[go_sem])
  all_goals(try(repeat'(with_reducible apply And.intro)))
  all_goals(first|exact .AO (by omega)|exact .AJ (by omega)|exact .sl (by simp[AA,IH])|exact .int (by simp[AA,IH])|exact .eq (by simp[AA,IH]))
 rintro i ⟨hi,hP⟩ J hJ;refine gO ?_;refine gR (l:=l) hi (fun b hb hbm hlt=>?_) (fun hil=>?_);simp(disch:=omega)only[go_sem,gm,hb]
 ·refine⟨fun h=>?_,fun h=>?_⟩
  ·have e:AA (l.take (i+1)) p=AA (l.take i) p:=by simp at h;simp[AA,tA,hb,h]
   refine hJ _ (i+1) ⟨by omega,(by rw[e];omega)⟩ (by omega) (Imp.Ar ?_ ?_)
   all_goals(try simp(disch:=omega)only[go_sem])
   all_goals(try(repeat'(with_reducible apply And.intro)))
   all_goals(first|exact .AO (by omega)|exact .AJ (by omega)|exact .sl (by simp[e])|exact .int (by simp[e])|exact .eq (by simp[e]))
  ·have e:AA (l.take (i+1)) p=AA (l.take i) p++[b]:=by simp at h;simp[AA,tA,hb,h]
   have ep:=V7 (AA (l.take i) p) p b;rw[← e]at ep;generalize AA (l.take i) p=r at hP e ep;have hbound:(r.length:Int)+1≤4294967296:=by omega
   repeat'(first
    |(with_reducible refine And.intro (fun h=>?_) (fun h=>?_))
    |((with_reducible show AW _ _ 61 _ _ _);refine Ah (f61_ok b.proc p) ?_ rfl ?_;(focus(simp(disch:=omega)only[go_sem];done));try simp(disch:=omega)only[go_sem])
    |((with_reducible show AU _ _ 61 _ _ _ _ _ _ _);refine Az ⟨⟨[],[],[]⟩,[],[]⟩ (f61_ok b.proc p) ?_ rfl rfl trivial (.inl rfl) ?_;(focus(simp(disch:=omega)only[go_sem];done));try simp(disch:=omega)only[go_sem]))
   all_goals(refine hJ _ (i+1) ⟨by omega,by rw[e];simp;omega⟩ (by omega) (Imp.Ar ?_ ?_))
   all_goals(try simp(disch:=omega)only[go_sem])
   all_goals(refine⟨.sl (by rw[e];simp[AK.c]),.int ?_⟩)
   all_goals(simp_all[after']<;>omega)
 ·subst hil;simp only[tL]at hP ⊢;have hb1:IH (AA l p) p=if (AA l p).findIdx? (after' p)=none then -1 else (Cu (AA l p) p:Int):=by
   unfold IH Cu;cases (AA l p).findIdx? (after' p)<;>simp
  have hpn:=L6 (AA l p) p;have hset:B5 l p a=if a.zero then AA l p else (AA l p).take (Cu (AA l p) p)++⟨p,a⟩::(AA l p).drop (Cu (AA l p) p):=rfl
  have hpd:(AA l p).findIdx? (after' p)=none→Cu (AA l p) p=(AA l p).length:=fun h=>by simp[Cu,h]
  generalize AA l p=r at hP hb1 hpn hset hpd ⊢;generalize Cu r p=k at hb1 hpn hset hpd;refine Ae (f264_ok a) ?_;cases hz:a.zero
  ·rw[hz]at hset;have hbound:(r.length:Int)+1≤4294967296:=by omega
   have hfin:r.length+1≤4294967296:=by omega
   generalize hpi:IH r p=q at hb1;have hk:q<0→k=r.length:=fun hq=>hpd (by
    cases h:r.findIdx? (after' p) with
    |none=>rfl
    |some i=>rw[h]at hb1;simp at hb1;omega)
   have hk':¬ q<0→q=(k:Int):=fun hq=>by
    split at hb1
    ·omega
    ·exact hb1
   clear hpd hb1 hJ;obtain⟨e,he⟩:∃ e:AK,((r++[h0]).map AK.c)[k]?=some e.c:=⟨(r++[h0])[k]'(by simp;omega),by rw[gm,gE (by simp;omega)];rfl⟩;have hover:∀ X,(over 0 (k+1) X (r.map AK.c++[z5]))[k]?=some e.c:=fun X=>by
    have:r.map AK.c++[z5]=(r++[h0]).map AK.c:=by simp[h0,AK.c,z5]
    rw[this];simp only[over,List.getElem?_mapIdx,he,map_some];rw[if_neg (by omega)]
   have tail:∀ X:List (List AV),X=((r.map AK.c++[z5]).drop k).take (r.length+1-(k+1))→(over 0 (k+1) X (r.map AK.c++[z5])).set k (AK.c ⟨p,a⟩)=(B5 l p a).map AK.c:=fun X hX=>by
    have:=XI (r.map AK.c) z5 (AK.c ⟨p,a⟩) k (by simpa using hpn);rw[hset,hX];simp only[List.length_append,length_map,List.length_cons,length_nil,Nat.zero_add]at this;rw[this];simp
   simp only[z5]at hover tail
   by_cases hq:q<0
   ·have e1:(q<0)=True:=by simp[hq]
    have:=hk hq;subst this;simp(disch:=omega)only[go_sem,e1];refine Aw 7 [([],[7]),([],[8]),([],[53]),([],[52,54]),([],[7]),([],[8]),([],[56,57])] fol ?_;simp(disch:=omega)only[go_sem,hover,Hw];refine CL ⟨[],[],[3264]⟩ _ ?_;refine gO ?_;exact .sl (tail _ (by rw[List.take_take];congr 1;omega))
   ·have e1:(q<0)=False:=by simp[hq]
    have:=hk' hq;subst this;simp(disch:=omega)only[go_sem,e1];refine Aw 7 [([],[7]),([],[8]),([],[53]),([],[52,54]),([],[7]),([],[8]),([],[56,57])] fol ?_;simp(disch:=omega)only[go_sem,hover,Hw];refine CL ⟨[],[],[3264]⟩ _ ?_;refine gO ?_;exact .sl (tail _ (by rw[List.take_take];congr 1;omega))
  ·rw[hz]at hset;refine gO ?_;refine CL ⟨[],[],[2496]⟩ _ ?_;simp(disch:=omega)only[go_sem,hset]
end Go.Rd
