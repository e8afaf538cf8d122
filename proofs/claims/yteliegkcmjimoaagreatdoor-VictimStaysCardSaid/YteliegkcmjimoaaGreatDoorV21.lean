/- part 21 of the proof -/
import Derived.Test.YteliegkcmjimoaaGreatDoorV20
set_option linter.all false
open Go Go.Abs Go.Proofs
set_option maxRecDepth 100000
namespace Go.Rd
set_option maxHeartbeats 8000000
open List (length_map map_append map_cons map_nil map_set mem_append mem_cons mem_filter mem_map mem_singleton nil_append nodup_append pairwise_cons take_add_one take_length)
open Bool (and_eq_true)
open Tryz
def AE(l:List Entry)(n:Bs):BO:=l.foldl (λa e=>if e.name==n then e.after else a) ⟨0,0⟩
def ER{l:List Entry}{n:Bs}{i:Nat}{b:Entry}(hb:l[i]?=some b):AE (l.take (i+1)) n=if b.name==n then b.after else AE (l.take i) n:=by
 simp[AE,take_add_one,hb,List.foldl_append]
def HS(l:List Entry)(n:Bs):Ac C0 195 [Ew l,.v (.string (str n))] [] (.agg (AE l n).c) []:=by
 refine Ac.lens f195 λhlen=>?_
 simp only[E0,lens,length_map,and_true,true_and]at hlen;refine Ac.go f195 ?_;unfold f195;refine gO ?_;refine AH (l) (λi=>⟨[(6,I i),(0,Ew l),(1,.v (.string (str n))),(4,.ptr 256 0),(5,.ptr 320 0)],[(256,(⟨0,0⟩:BO).c),(320,(AE (l.take i) n).c)]⟩) (λi=>True) trivial ?_ ?_
 ·refine AQ.An ?_ ?_
  all_goals(try simp(disch:=omega)only[go_sem])
  all_goals(try(repeat'(with_reducible apply And.intro)))
  all_goals(first|exact .AU (by omega)|exact .AD (by omega)|exact .sl (by simp[AE])|exact .int (by simp[AE])|exact .eq (by simp[AE]))
 rintro i ⟨hi,hP⟩ J hJ;refine gO ?_;refine Bp hi (λAu b hb Cc AR=>?_) λBf=>?_
 simp(disch:=omega)only[go_sem,gm,hb]
 ·refine⟨λh=>?_,λh=>?_⟩
  ·refine hJ _ (i+1) ⟨by omega,trivial⟩ (by omega) (AQ.An ?_ ?_)
   all_goals(try simp(disch:=omega)only[go_sem])
   all_goals(try(repeat'(with_reducible apply And.intro)))
   all_goals(first|exact .AU (by omega)|exact .AD (by omega)|exact .sl (by simp[ER hb,h])|exact .int (by simp[ER hb,h])|exact .eq (by simp[ER hb,h]))
  ·refine hJ _ (i+1) ⟨by omega,trivial⟩ (by omega) (AQ.An ?_ ?_)
   all_goals(try simp(disch:=omega)only[go_sem])
   all_goals(try(repeat'(with_reducible apply And.intro)))
   all_goals(first|exact .AU (by omega)|exact .AD (by omega)|exact .sl (by simp[ER hb,h])|exact .int (by simp[ER hb,h])|exact .eq (by simp[ER hb,h]))
 ·subst Bf;simp(disch:=omega)only[go_sem,take_length];exact AM _
def Mv(l:List Save)(NA:Int):Int:=match l.findIdx? (λs=>s.label==NA) with|some i=>i|none=>-1
def Lj(l:List Save)(NA:Int):Ac C0 198 [OS l,I NA] [] (I (Mv l NA)) []:=by
 refine Ac.lens f198 λhlen=>?_
 simp only[E0,lens,length_map,and_true,true_and]at hlen;refine Ac.go f198 ?_;unfold f198;refine gO ?_;refine AH (l) (λi=>⟨[(5,I i),(0,OS l),(1,I NA)],[]⟩) (λi=>(l.take i).find? (λs=>s.label==NA)=none) rfl ?_ ?_
 ·exact B9
 rintro i ⟨hi,hP⟩ J hJ;refine gO ?_;refine Bp hi (λAu b hb Cc AR=>?_) λBf=>?_
 simp(disch:=omega)only[go_sem,gm,hb]
 ·refine⟨λh=>?_,λh=>?_⟩
  ·have e:=Gk hP b hb (by simpa using h);simp(disch:=omega)only[go_sem,e,Mv];exact AM _
  ·refine hJ _ (i+1) ⟨by omega,(by rw[B4 hP hb];simp at h;simp[h])⟩ (by omega) AS
 ·subst Bf;rw[take_length]at hP;have e:l.findIdx? (λs=>s.label==NA)=none:=by
   rw[List.findIdx?_eq_none_iff];rw[List.find?_eq_none]at hP;intro x hx;simpa using hP x hx
  simp(disch:=omega)only[go_sem,e,Mv];exact AM _
def usable(a:BO):Bool:=Hc.fits a||Hg.fits a
def Iv(a b:BO):Bool:=if !usable b||decide (a=b) then false else if a.mode==0&&a.Ax==0 then true else if !usable a then false else if a.mode !=0 then Br b.mode a.mode else decide (a.Ax<b.Ax)
def ra(a:BO):Ac C0 91 [.agg a.c] [] (B (usable a)) []:=TI a
theorem dE(a b:BO):Ac C0 196 [.agg a.c,.agg b.c] [] (B (Iv a b)) []:=by
 refine Ac.go f196 ?_;unfold f196;refine gO ?_;refine Ab (ra b) ?_;cases h1:usable b
 ·simp(disch:=omega)only[go_sem];refine Aj _ ?_;exact wb (by simp[Iv,h1])
 refine gO ?_;cases h2:decide (a=b);rotate_left
 ·simp(disch:=omega)only[go_sem,h2];refine Aj _ ?_;exact wb (by simp[Iv,h1,h2])
 simp(disch:=omega)only[go_sem,h2];cases h3:(a.mode==0&&a.Ax==0);rotate_left
 ·simp(disch:=omega)only[go_sem,h3];refine Aj _ ?_;exact wb (by simp[Iv,h1,h2,h3])
 simp(disch:=omega)only[go_sem,h3];refine Ab (ra a) ?_;cases h4:usable a
 ·simp(disch:=omega)only[go_sem];refine Aj _ ?_;exact wb (by simp[Iv,h1,h2,h3,h4])
 refine gO ?_;cases h5:(a.mode !=0)
 ·simp(disch:=omega)only[go_sem,h5];refine Aj _ ?_;exact wb (by simp only[Iv,h1,h2,h3,h4,h5];rfl)
 ·simp(disch:=omega)only[go_sem,h5];refine Ab (SC b.mode a.mode) ?_;refine gO ?_;refine Aj _ ?_;exact wb (by simp only[Iv,h1,h2,h3,h4,h5];rfl)
def Sq(a b:Int):Int:=match (List.range 5).find? (λk=>Br ((k+1:Nat):Int) a&&Br ((k+1:Nat):Int) b) with|some k=>((k+1:Nat):Int)|none=>0
def oK(a b:Int):Ac C0 263 [I a,I b] [] (I (Sq a b)) []:=by
 have hr:∀ i,i<5->(List.range 5)[i]?=some i:=λi hi=>by rw[List.getElem?_range hi]
 refine Ac.go f263 ?_;unfold f263;refine gO ?_;refine Ao (α:=Nat) (λi=>⟨[(5,I ((i+1:Nat):Int)),(0,I a),(1,I b)],[]⟩) (λi=>i<=5/\((List.range 5).take i).find? (λk=>Br ((k+1:Nat):Int) a&&Br ((k+1:Nat):Int) b)=none) (λi=>5-i) 0 ⟨by omega,rfl⟩ AS ?_;rintro i ⟨hi,hP⟩ J hJ
 by_cases h5:i<5
 rotate_left
 ·have e5:i=5:=by omega
  subst e5;have e:Sq a b=0:=by unfold Sq;rw[show List.range 5=(List.range 5).take 5 from rfl,hP]
  simp(disch:=omega)only[go_sem,e];exact AM _
 have e1:((i:Int)+1<=5)=True:=eq_true (by omega);simp(disch:=omega)only[go_sem,e1];refine Ab (SC ((i+1:Nat):Int) a) ?_;have st:(Br ((i+1:Nat):Int) a&&Br ((i+1:Nat):Int) b)=false->((List.range 5).take (i+1)).find? (λk=>Br ((k+1:Nat):Int) a&&Br ((k+1:Nat):Int) b)=none:=λh=>by
  rw[take_add_one,hr i h5,List.find?_append,hP];simp only[Option.toList,List.find?_cons,h,List.find?_nil,Option.none_or]
 cases h1:Br ((i+1:Nat):Int) a
 ·simp(disch:=omega)only[go_sem];exact hJ _ (i+1) ⟨by omega,st (by rw[h1];rfl)⟩ (by omega) AS
 refine gO ?_;refine Ab (SC ((i+1:Nat):Int) b) ?_;cases h2:Br ((i+1:Nat):Int) b
 ·simp(disch:=omega)only[go_sem];exact hJ _ (i+1) ⟨by omega,st (by rw[h1,h2];rfl)⟩ (by omega) AS
 ·have e:Sq a b=((i+1:Nat):Int):=by
   unfold Sq;have:=G5 (f:=λk=>Br ((k+1:Nat):Int) a&&Br ((k+1:Nat):Int) b) hP (hr i h5) (by rw[h1,h2];rfl);rw[this]
  simp(disch:=omega)only[go_sem,e];exact AM _
def Fo(r:Bo)(a b:BO):BO:=if !(r.permits a&&r.permits b) then ⟨0,0⟩ else if r.covers a b then a else if r.covers b a then b else ⟨Sq a.mode b.mode,0⟩
def Xw(r:Bo)(a b:BO):Ac C0 217 [.agg r.c,.agg a.c,.agg b.c] [] (.agg (Fo r a b).c) []:=by
 refine Ac.go f217 ?_;unfold f217;refine gO ?_;refine Ab (Pr r a) ?_;cases h1:r.permits a
 ·have e:Fo r a b=⟨0,0⟩:=by simp[Fo,h1]
  simp(disch:=omega)only[go_sem,e];exact AM _
 refine gO ?_;refine Ab (Pr r b) ?_;cases h2:r.permits b
 ·have e:Fo r a b=⟨0,0⟩:=by simp[Fo,h2]
  simp(disch:=omega)only[go_sem,e];exact AM _
 refine gO ?_;refine Ab (Ln r a b) ?_;cases h3:r.covers a b;rotate_left
 ·have e:Fo r a b=a:=by simp[Fo,h1,h2,h3]
  simp(disch:=omega)only[go_sem,e];exact AM _
 refine gO ?_;refine Ab (Ln r b a) ?_;cases h4:r.covers b a;rotate_left
 ·have e:Fo r a b=b:=by simp[Fo,h1,h2,h3,h4]
  simp(disch:=omega)only[go_sem,e];exact AM _
 refine gO ?_;have e:Fo r a b=⟨Sq a.mode b.mode,0⟩:=by simp[Fo,h1,h2,h3,h4]
 rw[e];refine Ab (oK a.mode b.mode) ?_;refine gO ?_;exact AM _
def r0:Bo:=⟨[],0,0,0⟩
@[reducible] def FO(l:List Bo):AV:=.sl .no 4 (l.map Bo.c)
def RM(l:List Bo)(n:Bs):Option Bo:=l.find? λr=>r.name==n
def oJ(l:List Bo)(n:Bs):Ac C0 262 [FO l,.v (.string (str n))] [] (.Bl [.agg ((RM l n).getD r0).c,B (RM l n).isSome]) []:=by
 refine Ac.lens f262 λhlen=>?_
 simp only[E0,lens,length_map,and_true,true_and]at hlen;refine Ac.go f262 ?_;unfold f262;refine gO ?_;refine AH (l) (λi=>⟨[(6,I i),(0,FO l),(1,.v (.string (str n))),(4,.ptr 256 0)],[(256,r0.c)]⟩) (λi=>(l.take i).find? (λr=>r.name==n)=none) rfl ?_ ?_
 ·refine AQ.An ?_ ?_
  all_goals(try simp(disch:=omega)only[go_sem,r0])
  all_goals(try(repeat'(with_reducible apply And.intro)))
  all_goals(first|exact .AU (by omega)|exact .AD (by omega)|exact .sl (by simp[r0])|exact .int (by simp[r0])|exact .eq (by simp[r0]))
 rintro i ⟨hi,hP⟩ J hJ;refine gO ?_;refine Bp hi (λAu b hb Cc AR=>?_) λBf=>?_
 simp(disch:=omega)only[go_sem,gm,hb]
 ·refine⟨λh=>?_,λh=>?_⟩
  ·have e:RM l n=some b:=G5 hP hb (by simpa using h);simp(disch:=omega)only[go_sem,e,gm,hb,Option.isSome_some,Option.getD_some];exact AM _
  ·refine hJ _ (i+1) ⟨by omega,(by rw[B4 hP hb];simp at h;simp[h])⟩ (by omega) AS
 ·subst Bf;rw[take_length]at hP;have e:RM l n=none:=hP;simp(disch:=omega)only[go_sem,e,Option.isSome_none,Option.getD_none,r0];exact AM _
def Kq(q:Queue)(p:Ad)(l:BO):Prop:=((Ar q p).isSome=true->Ap q.holds p=l)/\(Ap q.holds p=l\/((Ap q.holds p).zero=false/\q.res.covers (Ap q.holds p) l=true))
def zero_eq{a:BO}(h:a.zero=true):a=⟨0,0⟩:=by
 obtain⟨m,u⟩:=a;simp[BO.zero]at h;simp[h]
def JF{r:Bo}{a:BO}(h:r.fits a=true):r.covers a ⟨0,0⟩=true:=by
 have hs:r.shaped=true:=by simp only[Bo.fits,and_eq_true]at h;exact h.1
 have hz:(⟨0,0⟩:BO).zero=true:=rfl;simp[Bo.covers,Bo.permits,hs,h,hz]
def gq{l:List AX}{p:Ad}{a:BO}(ha:a.zero=false):Ap (Cs l p a) p=a:=by
 unfold Cs Ap;rw[ha];simp only[Bool.false_eq_true,if_false];rw[List.find?_append];have:((AG l p).take (CG (AG l p) p)).find? (λh=>decide (h.proc=p))=none:=by
  rw[List.find?_eq_none];intro x hx;have:=List.mem_of_mem_take hx;simp[AG]at this;simpa using this.2
 rw[this];simp
def gl{l:List AX}{p:Ad}:Ap (AG l p) p=⟨0,0⟩:=by
 unfold Ap;have:(AG l p).find? (λh=>decide (h.proc=p))=none:=by
  rw[List.find?_eq_none];intro x hx;simp[AG]at hx;simpa using hx.2
 rw[this]
def J9{l:List AX}{p:Ad}{a:BO}:Ap (Cs l p a) p=a:=by
 cases h:a.zero
 ·exact gq h
 ·rw[zero_eq h,GU,gl]
def LQ{l:List Ba}{p p':Ad}(h:p'≠p):(Bt l p).find? (λw=>decide (w.proc=p'))=l.find? λw=>decide (w.proc=p'):=by
 unfold Bt;rw[H5];intro x hx;simp at hx ⊢;rw[hx];exact h
def TK{l:List Ba}{p:Ad}:(Bt l p).find? (λw=>decide (w.proc=p))=none:=by
 rw[List.find?_eq_none];intro x hx;simp[Bt]at hx;simpa using hx.2
def I3{q:Queue}{p:Ad}:Ar q p=none↔∀ w,w∈q.Ak++q.waits->w.proc≠p:=by
 unfold Ar;rw[Option.map_eq_none_iff,List.find?_eq_none];simp
def E9{q:Queue}{w:Ba}(h:BE q=some w):(∃ l,q.Ak=w::l/\CS q w = { q with holds:=Cs q.holds w.proc w.AN,Ak:=l })\/(q.Ak=[]/\∃ l,q.waits=w::l/\CS q w = { q with holds:=Cs q.holds w.proc w.AN,waits:=l }):=by
 cases hc:q.Ak with
 | cons w' l =>
  have PN:w'=w:=by simp[BE,hc]at h;exact h
  subst PN;exact .inl ⟨l,rfl,by unfold CS;simp only[hc]⟩
 | nil =>
  cases hw:q.waits with
  | nil=>simp[BE,hc,hw]at h
  | cons w' l =>
   have PN:w'=w:=by simp[BE,hc,hw]at h;exact h
   subst PN;exact .inr ⟨rfl,l,rfl,by unfold CS;simp only[hc,hw];rfl⟩
def Jt{q:Queue}{w:Ba}{p:Ad}(h:BE q=some w)(hp:p≠w.proc):Ar (CS q w) p=Ar q p:=by
 have hd:decide (w.proc=p)=false:=by simpa using Ne.symm hp
 rcases E9 h with ⟨l,hc,e⟩|⟨hc,l,hw,e⟩
 ·rw[e];unfold Ar;simp only[hc,List.cons_append,List.find?_cons,hd]
 ·rw[e];unfold Ar;simp only[hc,hw,nil_append,List.find?_cons,hd]
def QU{q:Queue}{w:Ba}(h:BE q=some w):Ar q w.proc=some w.AN:=by
 rcases E9 h with ⟨l,hc,e⟩|⟨hc,l,hw,e⟩
 ·unfold Ar;simp[hc]
 ·unfold Ar;simp[hc,hw]
def Oh{q:Queue}{w:Ba}(hs:Sound q)(h:BE q=some w):Ar (CS q w) w.proc=none:=by
 have tP:=(B1 q).1 hs.Ak;obtain⟨a,b,c⟩:=(BT q).1 hs.waits;rw[CQ]at a;rw[I3];rcases E9 h with ⟨l,hc,e⟩|⟨hc,l,hw,e⟩
 ·rw[e];intro x hx;have hu:=tP.2.1;rw[hc]at hu;have V8:=pairwise_cons.1 hu;simp only[mem_append]at hx;rcases hx with hx|hx
  ·exact λe=>V8.1 x hx e.symm
  ·have hh:=(tP.2.2 w (by rw[hc];simp)).1;have hz:=(c x hx).2;intro e2;rw[e2,hh]at hz;cases hz
 ·rw[e];intro x hx;simp only[hc,nil_append]at hx;have hu:=a.2.1;rw[hw]at hu;exact λe=>(pairwise_cons.1 hu).1 x hx e.symm
def wN{q:Queue}{w:Ba}{p:Ad}{l:BO}(hs:Sound q)(h:BE q=some w)(hr:E3 q.res q.holds w.proc w.AN=true)(hk:Kq q p l):Kq (CS q w) p l:=by
 by_cases hp:p=w.proc
 ·subst hp;have hl:=hk.1 (by rw[QU h];rfl);have hf:=(NI hr).1;have e:Ap (CS q w).holds w.proc=w.AN:=by
   rcases E9 h with ⟨l,hc,e⟩|⟨hc,l,hw,e⟩<;>rw[e]<;>exact J9
  refine⟨λhh=>absurd hh (by rw[Oh hs h];simp),.inr ?_⟩;rw[e,(P7 q w).1];refine⟨IN hf,?_⟩;rcases E9 h with ⟨l',hc,_⟩|⟨hc,l',hw,_⟩
  ·have:=((B1 q).1 hs.Ak).2.2 w (by rw[hc];simp);rw[<- hl];exact this.2.2.1
  ·have:=((BT q).1 hs.waits).2.2 w (by rw[hw];simp);rw[<- hl,zero_eq this.2];exact JF hf
 ·have e:Ap (CS q w).holds p=Ap q.holds p:=by
   rcases E9 h with ⟨l,hc,e⟩|⟨hc,l,hw,e⟩<;>rw[e]<;>exact FH hp
  unfold Kq at hk ⊢;rw[Jt h hp,e,(P7 q w).1];exact hk
def wM{q:Queue}{p:Ad}{l:BO}(hs:Sound q)(hk:Kq q p l):Kq (B0 q).1 p l :=
 (HQ (P:=λx=>Sound x/\Kq x p l) (λ_ _ h hh hr=>⟨K0 h.1 hh hr,wN h.1 hh hr h.2⟩) _ q rfl ⟨hs,hk⟩).1.2
def ko{q:Queue}{p:Ad}(hw:Ar q p=none):Ar (B0 q).1 p=none/\Ap (B0 q).1.holds p=Ap q.holds p :=
 (HQ (P:=λx=>Ar x p=none/\Ap x.holds p=Ap q.holds p) (λx w h hh hr=>by
  have hp:p≠w.proc:=λe=>by rw[e,QU hh]at h;cases h.1
  refine⟨by rw[Jt hh hp];exact h.1,?_⟩;rw[<- h.2];rcases E9 hh with ⟨l,hc,e⟩|⟨hc,l,hw,e⟩<;>rw[e]<;>exact FH hp) _ q rfl ⟨hw,rfl⟩).1
def lI(g:Int):0<=MQ g/\MQ g<=1073741824:=by unfold MQ;split<;>omega
def QH{q:Queue}(h:Sound q):valid (DA q)=true:=by
 rw[Ck];exact Rl (WK h) (lI _)
def dd(q:Queue):(DA q).res=q.res:=(Ss q).1
def jH{q:Queue}{p:Ad}{l:BO}(hs:Sound q)(hk:Kq q p l):Kq (DA q) p l:=wM hs hk
def Ze{q:Queue}{p:Ad}(hw:Ar q p=none):Ar (DA q) p=none/\Ap (DA q).holds p=Ap q.holds p:=ko hw
def Tz(q:Queue)(x:Ad):Kc (DA q) x↔Kc q x:=kT q x
def Dg{α:Type}[DecidableEq α]:∀ (l' l:List α),l'.Nodup->(∀ x∈l',x∈l)->l'.length<=l.length
 |[],_,_,_=>Nat.zero_le _
 | a::l',l,hn,hs=>by
  have gG:=List.nodup_cons.1 hn;have ha:=hs a (by simp);have:=Dg l' (l.erase a) gG.2 λx hx=>(List.mem_erase_of_ne (λe=>gG.1 (by rw[<- e];exact hx))).2 (hs x (by simp[hx]))
  have h2:=List.length_erase_of_mem ha;have h3:0<l.length:=List.length_pos_of_mem ha;simp only[List.length_cons];omega
def JY{l:List Ba}:UN l↔(l.map (·.proc)).Nodup:=by
 unfold UN List.Nodup;rw[List.pairwise_map]
def CF(q:Queue)(p:Ad):Queue:={ q with Ak:=Bt q.Ak p,waits:=Bt q.waits p }
def M8{q:Queue}(h:Sound q)(p:Ad):Sound (CF q p):=by
 have hw:=Bx q.waits p;have hc:=Bx q.Ak p;refine⟨h.res,h.holds,?_,?_,h.gen⟩
 ·have:=(B1 q).1 h.Ak;rw[B1];simp only[CF];refine⟨by omega,this.2.1.sublist List.filter_sublist,λw hw=>?_⟩;simp only[Bt,mem_filter,decide_eq_true_eq]at hw;exact this.2.2 w hw.1
 ·have:=(BT q).1 h.waits;rw[BT];obtain⟨a,b,c⟩:=this;rw[CQ]at a;simp only[CF,CQ];refine⟨⟨by omega,a.2.1.sublist List.filter_sublist,λw hw=>?_⟩,by omega,λw hw=>?_⟩
  ·simp only[Bt,mem_filter]at hw;exact a.2.2 w hw.1
  ·simp only[Bt,mem_filter,decide_eq_true_eq]at hw;exact c w hw.1
def gD{q:Queue}(h:Sound q){p:Ad}(hz:(Ap q.holds p).zero=false):q.res.fits (Ap q.holds p)=true/\p.ok=true/\∃ x∈q.holds,x.proc=p:=by
 obtain⟨h1,h2,h3,h4,h5⟩:=(D6 _ _).1 h.holds;unfold Ap at hz ⊢;cases hf:q.holds.find? (λh=>decide (h.proc=p)) with
 |none=>rw[hf]at hz;simp[BO.zero]at hz
 |some x =>
  have hm:=List.mem_of_find?_eq_some hf;have hx:x.proc=p:=by simpa using List.find?_some hf
  exact⟨(h3 x hm).2,hx▸(h3 x hm).1,x,hm,hx⟩
def iE{m n:Int}(hm:Bu m=true)(hn:Bu n=true):Bu (Sq m n)=true/\Br (Sq m n) m=true/\Br (Sq m n) n=true:=by
 rcases A9 hm with rfl|rfl|rfl|rfl|rfl<;>rcases A9 hn with rfl|rfl|rfl|rfl|rfl<;>decide
def Pm{m:Int}(hm:Bu m=true):Br m m=true:=by
 rcases A9 hm with rfl|rfl|rfl|rfl|rfl<;>decide
def U0{a b c:Int}(h1:Br a b=true)(h2:Br b c=true):Br a c=true:=by
 have ha:Bu a=true:=by simp only[Br,and_eq_true]at h1;exact h1.1.1
 have hb:Bu b=true:=by simp only[Br,and_eq_true]at h1;exact h1.1.2
 have hc:Bu c=true:=by simp only[Br,and_eq_true]at h2;exact h2.1.2
 revert h1 h2;rcases A9 ha with rfl|rfl|rfl|rfl|rfl<;>rcases A9 hb with rfl|rfl|rfl|rfl|rfl<;>rcases A9 hc with rfl|rfl|rfl|rfl|rfl<;>decide
def CO{r:Bo}{a:BO}(h:r.fits a=true):r.shaped=true/\((r.kind=1/\Bu a.mode=true/\a.Ax=0)\/(r.kind≠1/\a.mode=0/\1<=a.Ax/\a.Ax<=r.Ax/\r.Ax<=8)):=by
 simp only[Bo.fits,and_eq_true]at h;obtain⟨h1,h2⟩:=h;refine⟨h1,?_⟩;split at h2
 ·rename_i hk;simp at h2;exact .inl ⟨hk,h2.1,h2.2⟩
 ·rename_i hk;simp[AL]at h2;have:r.Ax<=8:=by
   simp only[Bo.shaped,if_neg hk]at h1;split at h1
   ·simp[AL]at h1;omega
   ·cases h1
  exact .inr ⟨hk,h2.1,h2.2.1,h2.2.2,this⟩
def EF{r:Bo}{a b:BO}(ha:r.fits a=true)(hb:r.fits b=true):r.covers a b=if r.kind=1 then Br a.mode b.mode else decide (b.Ax<=a.Ax):=by
 have z1:=IN ha;have z2:=IN hb;have hs:=(CO ha).1;simp[Bo.covers,Bo.permits,hs,ha,hb,z1,z2]
def RN{r:Bo}{a:BO}(h:r.fits a=true):(Hc.fits a||Hg.fits a)=true:=by
 rcases(CO h).2 with ⟨_,h2,h3⟩|⟨_,h2,h3,h4,h5⟩
 ·simp[Bo.fits,Hc,Bo.shaped,h2,h3]
 ·have:AL a.Ax 1 8=true:=by simp[AL];omega
  simp[Bo.fits,Hg,Bo.shaped,h2,this,show AL (8:Int) 1 8=true by decide]
def T6{r:Bo}{h a:BO}(hh:r.fits h=true)(ha:r.fits a=true)(hc:r.covers h a=false):r.fits (Fo r h a)=true/\r.covers (Fo r h a) h=true/\Fo r h a≠h/\r.covers (Fo r h a) a=true:=by
 have hs:=(CO hh).1;have TZ:r.permits h=true:=by simp[Bo.permits,hs,hh]
 have V6:r.permits a=true:=by simp[Bo.permits,hs,ha]
 unfold Fo;simp only[TZ,V6,hc,Bool.and_self,Bool.not_true,Bool.false_eq_true,if_false]
 by_cases h2:r.covers a h=true
 ·rw[if_pos h2];refine⟨ha,h2,(λe=>by rw[e]at h2 hc;rw[h2]at hc;cases hc),?_⟩;rw[EF ha ha];rcases(CO ha).2 with ⟨k1,k2,k3⟩|⟨k1,k2,k3,k4,_⟩
  ·rw[if_pos k1];exact Pm k2
  ·rw[if_neg k1];simp
 ·rw[if_neg h2];rw[EF hh ha]at hc;rw[EF ha hh]at h2;rcases(CO hh).2 with ⟨k1,k2,k3⟩|⟨k1,k2,k3,k4,_⟩
  ·rcases(CO ha).2 with ⟨_,j2,j3⟩|⟨j1,_⟩
   ·obtain⟨s1,s2,s3⟩:=iE k2 j2;rw[if_pos k1]at hc;have hf:r.fits ⟨Sq h.mode a.mode,0⟩=true:=by simp[Bo.fits,hs,k1,s1]
    refine⟨hf,(by rw[EF hf hh,if_pos k1];exact s2),λe=>?_,by rw[EF hf ha,if_pos k1];exact s3⟩;have:Sq h.mode a.mode=h.mode:=congrArg BO.mode e;rw[this]at s3;rw[s3]at hc;cases hc
   ·exact absurd k1 j1
  ·rw[if_neg k1]at hc h2;simp at hc h2;omega
def UJ{q:Queue}(h:Sound q){p:Ad}{a:BO}(ha:q.res.fits a=true)(hw:Ar q p=none)(hz:(Ap q.holds p).zero=false)(hc:q.res.covers (Ap q.holds p) a=false) :
 Sound { q with Ak:=q.Ak++[⟨p,Fo q.res (Ap q.holds p) a,0,0⟩] }:=by
 obtain⟨hf,hpo,x,hx,eT⟩:=gD h hz;obtain⟨j1,j2,j3,_⟩:=T6 hf ha hc;obtain⟨c1,c2,c3⟩:=(B1 q).1 h.Ak;have hn:=I3.1 hw;have hlen:q.holds.length<=8:=((D6 _ _).1 h.holds).2.1;have El:(q.Ak.map (·.proc)++[p]).Nodup:=by
  rw[nodup_append];refine⟨JY.1 c2,by simp,λy hy z hz=>?_⟩;simp only[mem_singleton]at hz;simp only[mem_map]at hy;obtain⟨w,mQ,mR⟩:=hy;rw[hz,<- mR];exact hn w (by simp[mQ])
 have hle:=Dg _ (q.holds.map (·.proc)) El λy hy=>by
  rw[mem_append]at hy;rcases hy with hy|hy
  ·simp only[mem_map]at hy;obtain⟨w,mQ,mR⟩:=hy;obtain⟨x',h1,h2⟩:=Nx (c3 w mQ).1;exact mem_map.2 ⟨x',h1,by rw[h2,mR]⟩
  ·rw[mem_singleton.1 hy];exact mem_map.2 ⟨x,hx,eT⟩
 simp only[List.length_append,length_map,List.length_singleton]at hle;refine⟨h.res,h.holds,?_,h.waits,h.gen⟩;rw[B1];refine⟨by simp;omega,?_,λw hw=>?_⟩
 ·rw[JY];simpa using El
 ·simp only[mem_append,mem_singleton]at hw;rcases hw with hw|rfl
  ·exact c3 w hw
  ·exact⟨hz,j1,j2,j3,rfl,rfl⟩
def Fu(l:List Ba)(w:Ba):Nat->Nat
 | 0=>0
 | k+1=>if (l.getD k w0).prio<w.prio/\(l.getD k w0).DW<3 then Fu l w k else k+1
def OR(l:List Ba)(w:Ba):List Ba:=l.take (Fu l w l.length)++w::(l.drop (Fu l w l.length)).map λx=>{ x with DW:=x.DW+1 }
def aM(l:List Ba)(w:Ba):∀ k,Fu l w k<=k
 | 0=>by simp[Fu]
 | k+1=>by
  simp only[Fu];split
  ·have:=aM l w k;omega
  ·omega
def UL(l:List Ba)(w:Ba):∀ k,k<=l.length->(∀ y∈l.drop k,y.DW<3)->∀ y∈l.drop (Fu l w k),y.DW<3
 | 0,_,h=>by simpa [Fu]using h
 | k+1,hk,h=>by
  simp only[Fu];split
  ·rename_i hc;refine UL l w k (by omega) λy hy=>?_
   rw[List.drop_eq_getElem_cons (by omega)]at hy;rcases mem_cons.1 hy with rfl|hy
   ·have:=hc.2;simpa [List.getD,gE (show k<l.length by omega)]using this
   ·exact h y hy
  ·exact h
def cJ(l:List Ba)(w:Ba):(OR l w).map (·.proc)=(l.map (·.proc)).take (Fu l w l.length)++w.proc::(l.map (·.proc)).drop (Fu l w l.length):=by
 simp[OR,List.map_take,List.map_drop,Function.comp_def]
def Ux(l:List Ba)(w:Ba):(OR l w).length=l.length+1:=by
 have:=aM l w l.length;simp[OR];omega
def Uy{l:List Ba}{w x:Ba}(h:x∈OR l w):x=w\/x∈l\/∃ y∈l,y.DW<3/\x = { y with DW:=y.DW+1 }:=by
 simp only[OR,mem_append,mem_cons,mem_map]at h;rcases h with h|h|⟨y,hy,h⟩
 ·exact .inr (.inl (List.mem_of_mem_take h))
 ·exact .inl h
 ·exact .inr (.inr ⟨y,List.mem_of_mem_drop hy,UL l w _ (Nat.le_refl _) (by simp) y hy,h.symm⟩)
def WM{q:Queue}(h:Sound q){p:Ad}{a:BO}{prio:Int}(hp:p.ok=true)(XT:0<=prio/\prio<=7)(ha:q.res.fits a=true)(hw:Ar q p=none)(hz:(Ap q.holds p).zero=true)(hl:q.holds.length+q.waits.length<8) :
 Sound { q with waits:=OR q.waits ⟨p,a,prio,0⟩ }:=by
 obtain⟨a1,a2,a3⟩:=(BT q).1 h.waits;rw[CQ]at a1;have hn:=I3.1 hw;have hlen:=Ux q.waits ⟨p,a,prio,0⟩;refine⟨h.res,h.holds,h.Ak,?_,h.gen⟩;rw[BT];simp only[CQ];refine⟨⟨by omega,?_,λx hx=>?_⟩,by omega,λx hx=>?_⟩
 ·rw[JY,cJ];have hu:=JY.1 a1.2.1;have uu:p∉q.waits.map (·.proc):=λhm=>by
   obtain⟨w,h1,h2⟩:=mem_map.1 hm;exact hn w (by simp[h1]) h2
  generalize q.waits.map (·.proc)=ps at hu uu;generalize Fu q.waits ⟨p,a,prio,0⟩ q.waits.length=k;have kN:=hu;rw[<- List.take_append_drop k ps,nodup_append]at kN;rw[nodup_append];refine⟨kN.1,List.nodup_cons.2 ⟨λhm=>uu (List.mem_of_mem_drop hm),kN.2.1⟩,λy hy z hz=>?_⟩;rcases mem_cons.1 hz with rfl|hz
  ·exact λe=>uu (e▸List.mem_of_mem_take hy)
  ·exact kN.2.2 y hy z hz
 ·rcases Uy hx with rfl|hx|⟨y,hy,hy3,rfl⟩
  ·simp[Ba.ok,hp,RN ha,AL,XT]
  ·exact a1.2.2 x hx
  ·have:=a1.2.2 y hy;simp only[Ba.ok,and_eq_true,AL,decide_eq_true_eq]at this ⊢;exact⟨this.1,by omega,by omega⟩
 ·rcases Uy hx with rfl|hx|⟨y,hy,hy3,rfl⟩
  ·exact⟨ha,hz⟩
  ·exact a3 x hx
  ·exact a3 y hy
def XI{l1 l2:List AX}{p:Ad}(h1:∀ y∈l1,Bw y.proc p<0)(h2:∀ y∈l2,Bw p y.proc<0):AG (l1++l2) p=l1++l2/\CG (l1++l2) p=l1.length:=by
 have n1:∀ y∈l1++l2,y.proc≠p:=λy hy e=>by
  rcases mem_append.1 hy with hy|hy
  ·have:=h1 y hy;rw[e,DN]at this;omega
  ·have:=h2 y hy;rw[e,DN]at this;omega
 refine⟨by unfold AG;rw[List.filter_eq_self];intro y hy;simpa using n1 y hy,?_⟩;unfold CG;rw[List.findIdx?_append];have e1:l1.findIdx? (after' p)=none:=by
  rw[List.findIdx?_eq_none_iff];intro y hy;have:=h1 y hy;simp[after'];omega
 rw[e1];cases l2 with
 | nil=>simp
 | cons y l2 =>
  have:=h2 y (by simp);have hs:=Ds p y.proc;have:after' p y=true:=by simp[after'];omega
  simp[List.findIdx?_cons,this]
def fD{l:List AX}(h:On l){x:AX}(hx:x∈l):∃ l1 l2,l=l1++x::l2/\∀ a:BO,a.zero=false->Cs l x.proc a=l1++⟨x.proc,a⟩::l2:=by
 obtain⟨l1,l2,rfl⟩:=List.append_of_mem hx;unfold On at h;rw[List.pairwise_append]at h;obtain⟨h1,h2,h3⟩:=h;have h2':=pairwise_cons.1 h2;have b1:∀ y∈l1,Bw y.proc x.proc<0:=λy hy=>h3 y hy x (by simp)
 have b2:∀ y∈l2,Bw x.proc y.proc<0:=λy hy=>h2'.1 y hy
 obtain⟨e1,e2⟩:=XI b1 b2;refine⟨l1,l2,rfl,λa ha=>?_⟩;have e3:AG (l1++x::l2) x.proc=l1++l2:=by
  rw[<- e1];simp[AG]
 unfold Cs;rw[ha,e3,e2];simp
def Pj{a b c:Int}(h1:Br a b=true)(h2:Cg a c=true):Cg b c=true:=by
 have ha:Bu a=true:=by simp only[Br,and_eq_true]at h1;exact h1.1.1
 have hb:Bu b=true:=by simp only[Br,and_eq_true]at h1;exact h1.1.2
 have hc:Bu c=true:=by simp only[Cg,and_eq_true]at h2;exact h2.1.2
 revert h1 h2;rcases A9 ha with rfl|rfl|rfl|rfl|rfl<;>rcases A9 hb with rfl|rfl|rfl|rfl|rfl<;>rcases A9 hc with rfl|rfl|rfl|rfl|rfl<;>decide
def Pk{a b:Int}(h:Cg a b=true):Cg b a=true:=by
 have ha:Bu a=true:=by simp only[Cg,and_eq_true]at h;exact h.1.1
 have hb:Bu b=true:=by simp only[Cg,and_eq_true]at h;exact h.1.2
 revert h;rcases A9 ha with rfl|rfl|rfl|rfl|rfl<;>rcases A9 hb with rfl|rfl|rfl|rfl|rfl<;>decide
def ZN(s' s:List Bool):Prop:=∀ k:Nat,s'.getD k false=true->s.getD k false=true\/∃ k':Nat,s.getD k' false=true/\k'<6/\Br k' k=true
def ax{s s':List Bool}{m:Int}(h:ZN s' s)(hs:EC s m=true):EC s' m=true:=by
 unfold EC at *;rw[List.all_eq_true]at *;intro k hk;cases h1:s'.getD k false
 ·rfl
 ·rcases h k h1 with h2|⟨k',h2,h4,h3⟩
  ·have:=hs k hk;rw[h2]at this;simpa using this
  ·have:=hs k' (List.mem_range.2 h4);rw[h2]at this;have:=Pj h3 (by simpa using this);simp[this]
def ay{s:List Bool}{m m':Int}(h:Br m m'=true)(hs:EC s m=true):EC s m'=true:=by
 unfold EC at *;rw[List.all_eq_true]at *;intro k hk;have:=hs k hk;cases h1:s.getD k false
 ·rfl
 ·rw[h1]at this;have h2:Cg k m=true:=by simpa using this
  have:=Pk (Pj h (Pk h2));simp[this]
def gU{s s':List Bool}(h:ZN s' s)(hl:s'.length=s.length)(i:Nat):ZN (s'.set i true) (s.set i true):=by
 intro k hk;rw[G7]at hk;split at hk
 ·rename_i hc;exact .inl (by rw[G7,if_pos ⟨hc.1,by omega⟩])
 ·rcases h k hk with h2|⟨k',h2,h4,h3⟩
  ·refine .inl ?_;rw[G7];split
   ·rfl
   ·exact h2
  ·refine .inr ⟨k',?_,h4,h3⟩;rw[G7];split
   ·rfl
   ·exact h2
def IH{r:Bo}:∀ (l:List BO) {s s':Int} {seen N9:List Bool},s'<=s->N9.length=seen.length->ZN N9 seen->B5 r l s seen=true->B5 r l s' N9=true
 |[],_,_,_,_,_,_,_,_=>rfl
 | a::l,s,s',seen,N9,hs,hl,hk,h=>by
  simp only[B5,and_eq_true,Bool.not_eq_true',decide_eq_false_iff_not]at h ⊢;obtain⟨⟨h1,h2⟩,h3⟩:=h;refine⟨⟨h1,by omega⟩,?_⟩;split at h3
  ·rename_i hm;rw[if_pos hm];exact IH l (by omega) hl hk h3
  ·rename_i hm;rw[if_neg hm];rw[and_eq_true]at h3 ⊢;exact⟨ax hk h3.1,IH l (by omega) (by simpa using hl) (gU hk hl _) h3.2⟩
def cm(s:List Bool):ZN s s:=λ_ h=>.inl h
def J4{r:Bo}{a b:BO}(ha:r.fits a=true)(hb:r.fits b=true)(hc:r.covers a b=true)(l2:List BO):∀ (l1:List BO) {s:Int} {seen:List Bool},seen.length=6->B5 r (l1++a::l2) s seen=true->B5 r (l1++b::l2) s seen=true
 |[],s,seen,hl,h=>by
  rw[EF ha hb]at hc;have hs:=(CO ha).1;have hpb:r.permits b=true:=by simp[Bo.permits,hs,hb]
  simp only[nil_append,B5,and_eq_true,Bool.not_eq_true',decide_eq_false_iff_not]at h ⊢;obtain⟨⟨h1,h2⟩,h3⟩:=h;rcases(CO ha).2 with ⟨k1,k2,k3⟩|⟨k1,k2,k3,k4,_⟩
  ·rcases(CO hb).2 with ⟨_,j2,j3⟩|⟨j1,_⟩
   ·rw[if_pos k1]at hc;have m1:a.mode≠0:=by rcases A9 k2 with e|e|e|e|e<;>omega
    have m2:b.mode≠0:=by rcases A9 j2 with e|e|e|e|e<;>omega
    rw[if_neg m1,and_eq_true]at h3;rw[if_neg m2,and_eq_true];refine⟨⟨hpb,by omega⟩,ay hc h3.1,IH l2 (by omega) (by simp) (λk hk=>?_) h3.2⟩;rw[G7]at hk;split at hk
    ·rename_i a7;refine .inr ⟨a.mode.toNat,?_,?_,?_⟩
     ·rw[G7,if_pos ⟨rfl,by rcases A9 k2 with e|e|e|e|e<;>omega⟩]
     ·rcases A9 k2 with e|e|e|e|e<;>omega
     ·rw[<- a7.1];have e1:((a.mode.toNat:Nat):Int)=a.mode:=by rcases A9 k2 with e|e|e|e|e<;>omega
      have e2:((b.mode.toNat:Nat):Int)=b.mode:=by rcases A9 j2 with e|e|e|e|e<;>omega
      rw[e1,e2];exact hc
    ·refine .inl ?_;rw[G7];split
     ·rfl
     ·exact hk
   ·exact absurd k1 j1
  ·rcases(CO hb).2 with ⟨j1,_⟩|⟨_,j2,j3,j4,_⟩
   ·exact absurd j1 k1
   ·rw[if_neg k1]at hc;simp only[decide_eq_true_eq]at hc;rw[if_pos k2]at h3;rw[if_pos j2];exact⟨⟨hpb,by omega⟩,IH l2 (by omega) rfl (cm _) h3⟩
 | x::l1,s,seen,hl,h=>by
  simp only[List.cons_append,B5,and_eq_true]at h ⊢;refine⟨h.1,?_⟩;have h3:=h.2;split at h3
  ·rename_i hm;rw[if_pos hm];exact J4 ha hb hc l2 l1 hl h3
  ·rename_i hm;rw[and_eq_true]at h3;rw[if_neg hm,and_eq_true];exact⟨h3.1,J4 ha hb hc l2 l1 (by simpa using hl) h3.2⟩
def Vd{r:Bo}{l:List AX}(h:BG r l=true){p:Ad}{a:BO}(hz:(Ap l p).zero=false)(hc:r.covers (Ap l p) a=true)(ha:a.zero=false):BG r (Cs l p a)=true:=by
 obtain⟨h1,h2,h3,h4,h5⟩:=(D6 _ _).1 h;obtain⟨x,hx,eT,hg⟩:∃ x∈l,x.proc=p/\Ap l p=x.AN:=by
  unfold Ap at hz ⊢;cases hf:l.find? (λh=>decide (h.proc=p)) with
  |none=>rw[hf]at hz;simp[BO.zero]at hz
  |some x=>exact⟨x,List.mem_of_find?_eq_some hf,by simpa using List.find?_some hf,rfl⟩
 have hfx:=(h3 x hx).2;rw[hg]at hc;have kz:r.fits a=true:=by
  simp only[Bo.covers,Bo.permits,and_eq_true,Bool.or_eq_true]at hc;have:=hc.1.2.2;rw[ha]at this;simpa using this
 subst eT;obtain⟨l1,l2,rfl,T0⟩:=fD h4 hx;rw[T0 a ha,D6];refine⟨h1,by simpa using h2,λy hy=>?_,?_,?_⟩
 ·simp only[mem_append,mem_cons]at hy;rcases hy with hy|rfl|hy
  ·exact h3 y (by simp[hy])
  ·exact⟨(h3 x hx).1,kz⟩
  ·exact h3 y (by simp[hy])
 ·unfold On at h4 ⊢;rw[List.pairwise_append]at h4 ⊢;have rj:=pairwise_cons.1 h4.2.1;refine⟨h4.1,pairwise_cons.2 ⟨λy hy=>rj.1 y hy,rj.2⟩,λy hy z hz=>?_⟩;rcases mem_cons.1 hz with rfl|hz
  ·exact h4.2.2 y hy x (by simp)
  ·exact h4.2.2 y hy z (by simp[hz])
 ·simp only[Bo.compat,and_eq_true,map_append,map_cons]at h5 ⊢;exact⟨h5.1,J4 hfx kz hc _ _ rfl h5.2⟩
def FJ(q:Queue)(p:Ad)(a:BO):Queue:={ q with holds:=Cs q.holds p a }
def Ri{q:Queue}(h:Sound q){p:Ad}{a:BO}(hz:(Ap q.holds p).zero=false)(hw:Ar q p=none)(hc:q.res.covers (Ap q.holds p) a=true):Sound (FJ q p a):=by
 have hn:=I3.1 hw;have hlen:(Cs q.holds p a).length<=q.holds.length:=by
  have h1:=QG hz;have h2:=S3 (l:=q.holds) (p:=p) (a:=a);omega
 refine⟨h.res,?_,?_,?_,h.gen⟩
 ·cases ha:a.zero
  ·exact Vd h.holds hz hc ha
  ·simp only[FJ,zero_eq ha,GU];exact JM List.filter_sublist h.holds
 ·obtain⟨c1,c2,c3⟩:=(B1 q).1 h.Ak;rw[B1];simp only[FJ];refine⟨c1,c2,λw hw=>?_⟩;rw[FH (hn w (by simp[hw]))];exact c3 w hw
 ·obtain⟨a1,a2,a3⟩:=(BT q).1 h.waits;rw[BT];simp only[FJ];refine⟨a1,by omega,λw hw=>?_⟩;rw[FH (hn w (by simp[hw]))];exact a3 w hw
def Sk{α:Type}(l:List α)(k:Nat)(p:α):List α:=l.take k++p::l.drop k
section
variable {α:Type}
def X7(l:List α)(k:Nat)(p:α)(h:k<=l.length):(Sk l k p).length=l.length+1:=by simp[Sk];omega
def eZ(l:List α)(k:Nat)(p:α)(h:k<=l.length):(Sk l k p)[k]?=some p:=by
 unfold Sk;rw[List.getElem?_append_right (by simp;omega)];simp[Nat.min_eq_left h]
def ZY(l:List α)(k:Nat)(p:α)(h:k+1<=l.length):(Sk l (k+1) p)[k]?=l[k]?:=by
 unfold Sk;rw[List.getElem?_append_left (by simp;omega),List.getElem?_take,if_pos (by omega)]
def ZZ{l:List α}{k:Nat}{p x:α}(hx:l[k]?=some x):((Sk l (k+1) p).set (k+1) x).set k p=Sk l k p:=by
 have hk:=Ay hx;have hd:l.drop k=x::l.drop (k+1):=by rw[List.drop_eq_getElem_cons hk,get_eq hx]
 have ht:l.take (k+1)=l.take k++[x]:=by rw[take_add_one,hx];rfl
 unfold Sk;rw[ht,hd];have hl:(l.take k).length=k:=by simp;omega
 rw[List.append_assoc,List.set_append_right _ _ (by omega),hl];simp only[List.singleton_append,Nat.add_sub_cancel_left,List.set_cons_succ,List.set_cons_zero];rw[List.set_append_right _ _ (by omega),hl];simp
def qd(l:List α)(k:Nat)(p x:α):x∈Sk l k p↔x∈l\/x=p:=by
 unfold Sk
 conv=>rhs;rw[<- List.take_append_drop k l]
 simp only[mem_append,mem_cons];constructor
 ·rintro(h|h|h)
  ·exact .inl (.inl h)
  ·exact .inr h
  ·exact .inl (.inr h)
 ·rintro((h|h)|h)
  ·exact .inl h
  ·exact .inr (.inr h)
  ·exact .inr (.inl h)
end
@[reducible] def mu(l:List Bs):AV:=.sl .no 1 (l.map λs=>[.v (.string (str s))])
@[reducible] def fk(r:Nat)(l:List Bs):AV:=.sl (.own r 0) 1 (l.map λs=>[.v (.string (str s))])
def Oe(l:List Bs)(n:Bs):Nat->Nat
 | 0=>0
 | k+1=>if DJ n (l.getD k []) then Oe l n k else k+1
def XX(l:List Bs)(n:Bs):List Bs:=if n∈l then l else Sk l (Oe l n l.length) n
def Dy(l:List Entry):List Bs:=(l.map (·.name)).foldl XX []
def aL(l:List Bs)(n:Bs):∀ k,Oe l n k<=k
 | 0=>by simp[Oe]
 | k+1=>by
  simp only[Oe];split
  ·have:=aL l n k;omega
  ·omega
def kX(l:List Bs)(n:Bs):(XX l n).length<=l.length+1:=by
 unfold XX;split
 ·omega
 ·rw[X7 _ _ _ (aL l n _)];omega
def MO{l:List Entry}{i:Nat}{b:Entry}(hb:l[i]?=some b):Dy (l.take (i+1))=XX (Dy (l.take i)) b.name:=by
 simp[Dy,take_add_one,hb,List.foldl_append]
def ON{l:List Entry}:∀ i,i<=l.length->(Dy (l.take i)).length<=i
 | 0,_=>by simp[Dy]
 | i+1,h=>by
  obtain⟨b,hb⟩:∃ b,l[i]?=some b:=⟨_,gE (by omega)⟩;rw[MO hb];have:=kX (Dy (l.take i)) b.name;have:=ON (l:=l) i (by omega);omega
def Xv(l:List Entry)(hl:l.length<=1000000):Ac C0 197 [Ew l] [] (mu (Dy l)) []:=by
 refine Ac.go f197 ?_;unfold f197;refine gO ?_;refine AH (l) (λi=>⟨[(4,I i),(3,fk 2688 (Dy (l.take i))),(0,Ew l)],[]⟩) (λi=>True) trivial ?_ ?_
 ·refine AQ.An ?_ ?_
  all_goals(try simp(disch:=omega)only[go_sem])
  all_goals(try(repeat'(with_reducible apply And.intro)))
  all_goals(first|exact .AU (by omega)|exact .AD (by omega)|exact .sl (by simp[Dy])|exact .int (by simp[Dy])|exact .eq (by simp[Dy]))
 rintro i ⟨hi,hP⟩ J hJ;refine gO ?_;refine Bp hi (λAu b hb Cc AR=>?_) λBf=>?_
 ·have uj:=ON i hi;generalize Ve:Dy (l.take i)=out at uj ⊢;refine Ao (α:=Nat) (λk=>⟨[(6,I k),(5,B (decide (b.name∈out.take k))),(4,I i),(3,fk 2688 out),(0,Ew l)],[]⟩) (λk=>k<=out.length) (λk=>out.length-k) 0 (by omega) ?_ ?_
  ·refine AQ.An ?_ ?_
   all_goals simp(disch:=omega)only[go_sem]
  rintro k hk J2 SO;refine gO ?_;refine And.intro (λbW=>?_) (λtU=>?_)
  ·obtain⟨x,hx⟩:∃ x,out[k]?=some x:=⟨_,gE (by simp at bW;omega)⟩;refine Av 11 [([],[5]),([],[21]),([],[3,22]),([],[6,22]),([],[23,24,22]),([],[25,22]),([],[0,22]),([],[4,22]),([],[27,28,22]),([],[29,22]),([],[30,22])] B7 ?_;have nxt:decide (b.name∈out.take (k+1))=(decide (b.name∈out.take k)||x==b.name):=by
    rw[take_add_one,hx]
    by_cases h2:x=b.name
    ·simp[h2]
    ·have h3:b.name≠x:=Ne.symm h2;simp[h2,h3]
   cases hc:decide (b.name∈out.take k)
   ·simp(disch:=omega)only[go_sem,gm,hx,hb];refine SO _ (k+1) (by simp at bW;omega) (by simp at bW;omega) (AQ.An ?_ ?_)
    all_goals(try simp(disch:=omega)only[go_sem])
    rw[nxt,hc,Bool.false_or];exact .rfl
   ·simp(disch:=omega)only[go_sem,gm,hx,hb];refine SO _ (k+1) (by simp at bW;omega) (by simp at bW;omega) (AQ.An ?_ ?_)
    all_goals(try simp(disch:=omega)only[go_sem])
    rw[nxt,hc,Bool.true_or];exact .rfl
  have xX:k=out.length:=by simp at tU;omega
  subst xX;rw[take_length];cases HT:decide (b.name∈out);rotate_left
  ·simp(disch:=omega)only[go_sem];have e:Dy (l.take (i+1))=out:=by rw[MO hb,Ve,XX,if_pos (by simpa using HT)]
   refine hJ _ (i+1) ⟨by simp at Au;omega,trivial⟩ (by simp at Au;omega) (AQ.An ?_ ?_)
   all_goals(try simp(disch:=omega)only[go_sem])
   all_goals(try(repeat'(with_reducible apply And.intro)))
   all_goals(first|exact .AU (by omega)|exact .AD (by omega)|exact .sl (by simp[e])|exact .int (by simp[e])|exact .eq (by simp[e]))
  have IY:out.length+1<=4294967296:=by omega
  have kF:b.name∉out:=by simpa using HT
  simp(disch:=omega)only[go_sem,gm,hb];refine Ao (α:=Nat) (λk=>⟨[(7,I k),(4,I i),(3,fk 2688 (Sk out k b.name)),(0,Ew l)],[]⟩) (λk=>k<=out.length/\Oe out b.name out.length=Oe out b.name k) (λk=>k) out.length ⟨by omega,rfl⟩ ?_ ?_
  ·refine AQ.An ?_ ?_
   all_goals(try simp(disch:=omega)only[go_sem])
   all_goals(try(repeat'(with_reducible apply And.intro)))
   all_goals(first|exact .int (by simp;omega)|exact .int (by simp)|exact .sl (by simp[Sk]))
  rintro k ⟨hk,hs⟩ J2 SO;have fin:Oe out b.name k=k->∀ st',AQ ⟨C0,[],[]⟩ st' ⟨[(4,I (i+1:Nat)),(3,fk 2688 (Sk out k b.name)),(0,Ew l)],[]⟩->J st':=λHH st' Zw =>
   hJ st' (i+1) ⟨by omega,trivial⟩ (by omega) (by
    have e:Dy (l.take (i+1))=Sk out k b.name:=by rw[MO hb,Ve,XX,if_neg kF,hs,HH]
    rw[e];exact Zw)
  refine Av 12 [([],[7]),([],[46]),([],[47]),([],[3,48]),([],[7,48]),([],[49,50,48]),([],[51,48]),([],[3,48]),([],[7,48]),([],[54,48]),([],[53,55,48]),([],[56,48])] B7 ?_;cases k with
  | zero =>
   have e0:(0<((0:Nat):Int))=False:=by simp
   simp(disch:=omega)only[go_sem,e0,decide_false];exact fin rfl _ AS
  | succ k =>
   have e0:(0<(((k+1:Nat)):Int))=True:=eq_true (by omega);have e1:(0<(k:Int)+1)=True:=eq_true (by omega);have e2:((k:Int)+1-1)=(k:Int):=by omega
   obtain⟨x,hx⟩:∃ x,out[k]?=some x:=⟨_,gE (by omega)⟩;have g1:=eZ out (k+1) b.name hk;have g2:=ZY out k b.name hk;rw[hx]at g2;have XR:=X7 out (k+1) b.name hk;have z1:k<(Sk out (k+1) b.name).length:=by omega
   have z2:k+1<(Sk out (k+1) b.name).length:=by omega
   simp(disch:=omega)only[go_sem,e0,e1,e2,gm,g1,g2,length_map,XR];cases hc:Op.bytesLess b.name x
   ·simp(disch:=omega)only[go_sem];exact fin (by simp[Oe,DJ,List.getD,hx,hc]) _ AS
   ·have e4:(k=k+1)=False:=eq_false (by omega);have e5:(k+1=k)=False:=eq_false (by omega);simp(disch:=omega)only[go_sem,e2,gm,g1,g2,length_map,XR,List.length_set,List.getElem?_set,e4,e5];refine SO _ k ⟨by omega,by rw[hs];simp[Oe,DJ,List.getD,hx,hc]⟩ (by omega) (AQ.An ?_ gI);refine gO ?_;refine .sl ?_;rw[<- ZZ hx,map_set,map_set]
 ·subst Bf;simp(disch:=omega)only[go_sem,take_length];refine CK ⟨[],[],[2688]⟩ _ ?_;simp(disch:=omega)only[go_sem]
def s0:Save:=⟨0,0⟩
def Df:Ledger:=⟨[],[]⟩
def Gg(l:List Entry)(i:Nat)(e:Entry):Bool:=C9 e.name&&decide (e.before=AE (l.take i) e.name)&&Iv e.before e.after
def F4(l:Ledger)(i:Nat)(s:Save):Bool:=decide (1<=s.label)&&decide (s.label<=99)&&decide (0<=s.pos)&&decide (s.pos<=l.entries.length)&&(decide (i=0)||decide ((l.Bn.getD (i-1) s0).pos<=s.pos))&&decide (Mv l.Bn s.label=(i:Int))
def BF(l:Ledger):Bool:=decide (l.entries.length<=72)&&decide (l.Bn.length<=4)&&Ci (Gg l.entries) l.entries&&decide ((Dy l.entries).length<=8)&&Ci (F4 l) l.Bn
def No(l:Ledger):Ac C0 136 [.agg l.c] [] (B (BF l)) []:=by
 have bad:BF l=false->B8 (B false) (B (BF l)):=λh=>wb h.symm
 refine Ac.go f136 ?_;unfold f136
 by_cases h1:72<l.entries.length
 ·have e1:(72<(l.entries.length:Int))=True:=eq_true (by omega);simp(disch:=omega)only[go_sem,e1,decide_true];refine Aj _ ?_;exact wb (by simp[BF];omega)
 have e1:(72<(l.entries.length:Int))=False:=eq_false (by omega)
 by_cases h2:4<l.Bn.length
 ·have e2:(4<(l.Bn.length:Int))=True:=eq_true (by omega);simp(disch:=omega)only[go_sem,e1,e2,decide_true,decide_false];refine Aj _ ?_;exact wb (by simp[BF];omega)
 have e2:(4<(l.Bn.length:Int))=False:=eq_false (by omega);simp(disch:=omega)only[go_sem,e1,e2,decide_false];refine AH (l.entries) (λi=>⟨[(3,I i),(1,.ptr 64 0)],[(64,l.c)]⟩) (λi=>Ci (Gg l.entries) (l.entries.take i)=true) rfl ?_ ?_
 ·exact B9
 rintro i ⟨hi,hP⟩ J hJ;refine gO ?_;refine Bp hi (λAu b hb Cc AR=>?_) λBf=>?_
 simp(disch:=omega)only[go_sem,gm,hb]
 ·refine Av 21 [([],[4]),([],[29]),([],[30]),([2],[31]),([2],[32]),([2],[4,33]),([2],[34,33]),([2],[1,33]),([2],[36,33]),([2],[3,33]),([2],[37,38,33]),([2],[4,33]),([2],[40,33]),([2],[39,41,33]),([2,13],[35,42,33]),([2,13],[33,43]),([2,13],[44]),([2,13],[4,45]),([2,13],[46,45]),([2,13],[4,45]),([2,13],[48,45])] B7 ?_;refine gO ?_;have no:Gg l.entries i b=false->BF l=false:=λh=>by simp only[BF,BM hb h,Bool.and_false,Bool.false_and]
  have yes:Gg l.entries i b=true->Ci (Gg l.entries) (l.entries.take (i+1))=true:=λh=>by rw[Cl hb,hP,h];rfl
  first|(refine Ab (QJ b.name) ?_)|(refine Aq (QJ b.name) ?_)
  cases h3:C9 b.name
  ·simp(disch:=omega)only[go_sem];refine Aj _ ?_;exact wb (by rw[no (by simp[Gg,h3])])
  simp(disch:=omega)only[go_sem,gm,hb]
  first|(refine Ab (HS (l.entries.take i) b.name) ?_)|(refine Aq (HS (l.entries.take i) b.name) ?_)
  refine gO ?_;cases h4:decide (b.before=AE (l.entries.take i) b.name)
  ·simp(disch:=omega)only[go_sem,h4];refine Aj _ ?_;exact wb (by rw[no (by simp only[Gg,h3,h4];rfl)])
  simp(disch:=omega)only[go_sem,h4]
  first|(refine Ab (dE b.before b.after) ?_)|(refine Aq (dE b.before b.after) ?_)
  cases h5:Iv b.before b.after
  ·simp(disch:=omega)only[go_sem];refine Aj _ ?_;exact wb (by rw[no (by simp only[Gg,h3,h4,h5];rfl)])
  refine gO ?_;refine hJ _ (i+1) ⟨by omega,yes (by simp only[Gg,h3,h4,h5];rfl)⟩ (by omega) AS
 subst Bf;rw[take_length]at hP;refine Ab (Xv l.entries (by omega)) ?_
 by_cases h6:8<(Dy l.entries).length
 ·have e6:(8<((Dy l.entries).length:Int))=True:=eq_true (by omega);simp(disch:=omega)only[go_sem,e6,decide_true];refine Aj _ ?_;exact wb (by simp[BF];omega)
 have e6:(8<((Dy l.entries).length:Int))=False:=eq_false (by omega);simp(disch:=omega)only[go_sem,e6,decide_false];have hP1:=hP;clear hP hJ hi;refine AH (l.Bn) (λi=>⟨[(5,I i),(1,.ptr 64 0)],[(64,l.c)]⟩) (λi=>Ci (F4 l) (l.Bn.take i)=true) rfl ?_ ?_
 ·exact B9
 rintro i ⟨hi,hP⟩ J hJ;refine gO ?_;refine Bp hi (λAu b hb Cc AR=>?_) λBf=>?_
 simp(disch:=omega)only[go_sem,gm,hb]
 ·have no:F4 l i b=false->BF l=false:=λh=>by simp only[BF,BM hb h,Bool.and_false]
  have yes:F4 l i b=true->Ci (F4 l) (l.Bn.take (i+1))=true:=λh=>by rw[Cl hb,hP,h];rfl
  refine Av 44 [([],[6]),([],[70]),([],[71]),([],[72]),([],[6,73]),([],[74,73]),([],[75,73]),([],[73,76]),([],[77]),([],[6,78]),([],[79,78]),([],[80,78]),([],[78,81]),([],[82]),([],[6,83]),([],[84,83]),([],[1,83]),([],[86,83]),([],[87,83]),([],[85,88,83]),([],[83,89]),([],[90]),([],[5,91]),([],[92,91]),([],[93,91]),([],[1,94]),([],[95,94]),([],[5,94]),([],[97,94]),([],[96,98,94]),([],[99,94]),([],[100,94]),([],[6,94]),([],[102,94]),([],[101,103,94]),([],[94,104,91]),([],[91,105]),([],[106]),([],[1,107]),([],[108,107]),([],[6,107]),([],[110,107]),([],[109,111,107]),([],[5,107])] B7 ?_
  by_cases c1:b.label<1
  ·have f1:=eq_true c1;simp(disch:=omega)only[go_sem,f1,decide_true];refine Aj _ ?_;exact wb (by rw[no (by simp[F4,show ¬ (1<=b.label) by omega])])
  have f1:=eq_false c1
  by_cases c2:99<b.label
  ·have f2:=eq_true c2;simp(disch:=omega)only[go_sem,f1,f2,decide_true,decide_false];refine Aj _ ?_;exact wb (by rw[no (by simp[F4,show ¬ (b.label<=99) by omega])])
  have f2:=eq_false c2
  by_cases c3:b.pos<0
  ·have f3:=eq_true c3;simp(disch:=omega)only[go_sem,f1,f2,f3,decide_true,decide_false];refine Aj _ ?_;exact wb (by rw[no (by simp[F4,show ¬ (0<=b.pos) by omega])])
  have f3:=eq_false c3
  by_cases c4:(l.entries.length:Int)<b.pos
  ·have f4:=eq_true c4;simp(disch:=omega)only[go_sem,f1,f2,f3,f4,decide_true,decide_false];refine Aj _ ?_;exact wb (by rw[no (by simp[F4,show ¬ (b.pos<=(l.entries.length:Int)) by omega])])
  have f4:=eq_false c4;have base:F4 l i b=((decide (i=0)||decide ((l.Bn.getD (i-1) s0).pos<=b.pos))&&decide (Mv l.Bn b.label=(i:Int))):=by
   simp[F4,show 1<=b.label by omega,show b.label<=99 by omega,show 0<=b.pos by omega,show b.pos<=(l.entries.length:Int) by omega]
  have last:(decide (i=0)||decide ((l.Bn.getD (i-1) s0).pos<=b.pos))=true->F4 l i b=decide (Mv l.Bn b.label=(i:Int)):=λh=>by rw[base,h,Bool.true_and]
  by_cases NO:i=0
  ·subst NO;have g0:=last (by simp);simp(disch:=omega)only[go_sem,f1,f2,f3,f4,decide_false]
   first|(refine Ab (Lj l.Bn b.label) ?_)|(refine Aq (Lj l.Bn b.label) ?_)
   refine gO ?_;refine And.intro (λhh=>?_) (λhh=>?_)
   ·refine Aj _ ?_;exact wb (by rw[no (by rw[g0];simpa using hh)])
   ·refine hJ _ 1 ⟨by omega,yes (by rw[g0];simpa using hh)⟩ (by omega) AS
  have PJ:(0<(i:Int))=True:=eq_true (by omega);have Lu:((i:Int)-1)=((i-1:Nat):Int):=by omega
  obtain⟨a,ME⟩:∃ a,l.Bn[i-1]?=some a:=⟨_,gE (by omega)⟩;have PH:l.Bn.getD (i-1) s0=a:=by simp[List.getD,ME]
  by_cases c5:b.pos<a.pos
  ·have f5:=eq_true c5;simp(disch:=omega)only[go_sem,f1,f2,f3,f4,f5,PJ,Lu,gm,ME,hb,decide_true,decide_false];refine Aj _ ?_;exact wb (by rw[no (by rw[base,PH];simp[NO];omega)])
  have f5:=eq_false c5;have g0:=last (by rw[PH];simp;omega);simp(disch:=omega)only[go_sem,f1,f2,f3,f4,f5,PJ,Lu,gm,ME,hb,decide_true,decide_false]
  first|(refine Ab (Lj l.Bn b.label) ?_)|(refine Aq (Lj l.Bn b.label) ?_)
  refine gO ?_;refine And.intro (λhh=>?_) (λhh=>?_)
  ·refine Aj _ ?_;exact wb (by rw[no (by rw[g0];simpa using hh)])
  ·refine hJ _ (i+1) ⟨by omega,yes (by rw[g0];simpa using hh)⟩ (by omega) AS
 subst Bf;rw[take_length]at hP;refine Aj _ ?_;exact wb (by simp[BF,hP,hP1];omega)
def cb(x:Ba):Ba:={ x with DW:=x.DW+1 }
theorem ah(l:List Ba)(w:Ba):OR l w=l.take (Fu l w l.length)++w::(l.drop (Fu l w l.length)).map cb:=rfl
def MG(l:List Ba)(w:Ba):List Ba × Int × Int:=if !DG l then ([],0,2) else if !w.ok||w.DW !=0 then ([],0,1) else if 0<=EH l w.proc then ([],0,11) else if l.length=8 then ([],0,4) else (OR l w,((Fu l w l.length:Nat):Int),0)
def pb(l:List Ba)(w:Ba)(hl:l.length<=1000000):Ac C0 303 [BZ l,.agg w.c] [] (.Bl [BZ (MG l w).1,I (MG l w).2.1,I (MG l w).2.2]) []:=by
 refine Ac.go f303 ?_;unfold f303;refine gO ?_;refine Ab (SJ l hl) ?_;cases h1:DG l
 ·have e:MG l w=([],0,2):=by simp[MG,h1]
  simp(disch:=omega)only[go_sem,e,map_nil];exact Fy _
 refine gO ?_;refine Ab (dT w) ?_;cases h2:w.ok
 ·have e:MG l w=([],0,1):=by simp[MG,h1,h2]
  simp(disch:=omega)only[go_sem,e,map_nil];exact Fy _
 refine gO ?_;cases h3:(w.DW !=0);rotate_left
 ·have e:MG l w=([],0,1):=by simp[MG,h1,h2,h3]
  simp(disch:=omega)only[go_sem,e,map_nil,h3];exact Fy _
 simp(disch:=omega)only[go_sem,h3];refine Ab (Nk l w.proc hl) ?_
 by_cases h4:0<=EH l w.proc
 ·have e:MG l w=([],0,11):=by simp[MG,h1,h2,h3,h4]
  simp(disch:=omega)only[go_sem,e,map_nil,eq_true h4,decide_true];exact Fy _
 simp(disch:=omega)only[go_sem,eq_false h4,decide_false];have hl8:l.length<=8:=((CQ l).1 h1).1
 by_cases h5:l.length=8
 ·have e:MG l w=([],0,4):=by simp[MG,h1,h2,h3,h4,h5]
  have e5:((l.length:Int)==8)=true:=by simp[h5]
  simp(disch:=omega)only[go_sem,e,map_nil,e5];exact Fy _
 have e5:((l.length:Int)==8)=false:=by simp;omega
 simp(disch:=omega)only[go_sem,e5];have e:MG l w=(OR l w,((Fu l w l.length:Nat):Int),0):=by simp[MG,h1,h2,h3,h4,h5]
 rw[e];refine Ao (α:=Nat) (λk=>⟨[(7,I k),(0,BZ l),(3,.ptr 192 0)],[(192,w.c)]⟩) (λk=>k<=l.length/\Fu l w l.length=Fu l w k) (λk=>k) l.length ⟨by omega,rfl⟩ AS ?_;rintro k ⟨hk,hs⟩ J hJ;have Jf:k=0\/(∃ j x,k=j+1/\l[j]?=some x/\¬ x.prio<w.prio)\/(∃ j x,k=j+1/\l[j]?=some x/\x.prio<w.prio/\¬ x.DW<3)\/(∃ j x,k=j+1/\l[j]?=some x/\x.prio<w.prio/\x.DW<3):=by
  cases k with
  | zero=>exact .inl rfl
  | succ j =>
   obtain⟨x,hx⟩:∃ x,l[j]?=some x:=⟨_,gE (by omega)⟩
   by_cases c1:x.prio<w.prio
   ·by_cases c2:x.DW<3
    ·exact .inr (.inr (.inr ⟨j,x,rfl,hx,c1,c2⟩))
    ·exact .inr (.inr (.inl ⟨j,x,rfl,hx,c1,c2⟩))
   ·exact .inr (.inl ⟨j,x,rfl,hx,c1⟩)
 have Jw:∀ j x,l[j]?=some x->l.getD j w0=x:=λj x h=>by simp[List.getD,h]
 have fin:(¬ ∃ j x,k=j+1/\l[j]?=some x/\x.prio<w.prio/\x.DW<3)->OR l w=l.take k++w::(l.drop k).map cb/\Fu l w l.length=k:=λh=>by
  have:Fu l w k=k:=by
   cases k with
   | zero=>rfl
   | succ j =>
    obtain⟨x,hx⟩:∃ x,l[j]?=some x:=⟨_,gE (by omega)⟩;simp only[Fu,Jw j x hx];rw[if_neg λhc=>h ⟨j,x,rfl,hx,hc.1,hc.2⟩]
  rw[ah,hs,this];exact⟨rfl,rfl⟩
 refine Av 17 [([],[7]),([],[32]),([],[33]),([],[0,34]),([],[7,34]),([],[36,34]),([],[35,37,34]),([],[38,34]),([],[39,34]),([],[3,34]),([],[41,34]),([],[40,42,34]),([],[34,43]),([],[44]),([],[0,45]),([],[7,45]),([],[47,45])] B7 ?_;rcases Jf with h0|⟨j,x,hj,hx,c1⟩|⟨j,x,hj,hx,c1,c2⟩|⟨j,x,hj,hx,c1,c3⟩
 rotate_left 3
 ·subst hj;simp(disch:=omega)only[go_sem,eq_true (show 0<((j+1:Nat):Int) by omega),eq_true (show 0<(j:Int)+1 by omega),(show ((j:Int)+1-1)=(j:Int) by omega),gm,hx,eq_true c1,eq_true c3,decide_true];refine hJ _ j ⟨by omega,by rw[hs];simp only[Fu,Jw j x hx];rw[if_pos ⟨c1,c3⟩]⟩ (by omega) AS
 all_goals first
  |(have Ca:=fin (fun⟨j',x',a,b,c,d⟩=>by obtain rfl:j=j':=(by omega);rw[hx]at b;cases b;omega);simp(disch:=omega)only[go_sem,eq_true (show 0<(k:Int) by omega),(show ((k:Int)-1)=(j:Int) by omega),gm,hx,eq_true c1,eq_false c2,decide_true,decide_false])
  |(have Ca:=fin (fun⟨j',x',a,b,c,d⟩=>by obtain rfl:j=j':=(by omega);rw[hx]at b;cases b;omega);simp(disch:=omega)only[go_sem,eq_true (show 0<(k:Int) by omega),(show ((k:Int)-1)=(j:Int) by omega),gm,hx,eq_false c1,decide_false])
  |(have Ca:=fin (fun⟨j',x',a,b,c,d⟩=>by omega);simp(disch:=omega)only[go_sem,eq_false (show ¬ 0<(k:Int) by omega),decide_false])
 all_goals
  rw[Ca.1,Ca.2];clear fin hJ hs;have Aea:(l.take k).length+1<=4294967296:=by simp;omega
  refine C8 511 [(0,1,0),(1,2,0),(2,4,0),(3,8,6),(4,16,9),(5,32,0),(6,64,32),(7,128,80),(8,256,255)] [0,1,2,4,32,3,5,33,6,34,36,96,7,35,37,97,14,38,98,100,15,39,99,101,46,102,31,47,103,110,63,111,127,255,511] (λm=>⟨Vm m [(1,56,(if m / 16%2=1 then .undef else .sl (.own 3584 0) 7 [])),(2,57,BZ l),(4,58,I k),(8,59,.sl .no 7 ((l.take k).map Ba.c)),(16,60,(if m / 128%2=1 then .undef else .sl (.own 3840 0) 7 ((l.take k).map Ba.c))),(32,61,.agg w.c),(64,62,.sl (.own 3968 0) 7 [w.c]),(128,63,.sl (.own 4032 0) 7 ((l.take k++[w]).map Ba.c)),(256,8,.sl (.own 4032 0) 7 ((l.take k++[w]).map Ba.c))]++[(7,I k),(0,BZ l),(3,.ptr 192 0)],[(192,w.c)]⟩) ?_ ?_ ?_ B7
  ·exact AS
  ·simp (maxSteps:=100000000)only[C7,C6,DS,DR,and_true,Nat.reduceDiv,Nat.reduceMod,Nat.reduceAnd,Nat.reduceEqDiff,reduceIte,true_and,and_false,false_and,and_self]
   repeat'(with_reducible refine And.intro ?_ ?_)
   all_goals simp(disch:=omega)only[go_sem,nil_append,map_append,map_cons,map_nil]
   all_goals exact AQ.An (by simp(disch:=omega)only[go_sem,map_append,map_cons,map_nil]) gI
  refine gO ?_;refine Ao (α:=Nat) (λi=>⟨[(9,I i),(8,.sl (.own 5248 0) 7 ((l.take k++w::((l.drop k).take (i-k)).map cb).map Ba.c)),(0,BZ l),(7,I k)],[]⟩) (λi=>k<=i/\i<=l.length) (λi=>l.length-i) k ⟨by omega,hk⟩ ?_ ?_
  ·refine AQ.BS ⟨[(4032,5248)],[],[]⟩ ⟨rfl,rfl⟩ (by simp[lk]) ?_ ?_
   all_goals(try simp(disch:=omega)only[go_sem])
   all_goals(try(repeat'(with_reducible apply And.intro)))
   all_goals(exact .sl (by simp))
  rintro i ⟨PJ,Lu⟩ J2 SO;refine gO ?_;refine ⟨λAu=>?_,λG9=>?_⟩
  ·obtain⟨b,hb⟩:∃ b,l[i]?=some b:=⟨_,gE (by simp at Au;omega)⟩;have pq:(l.take k++w::((l.drop k).take (i-k)).map cb).length+1<=4294967296:=by simp;omega
   have AaJ:=((CQ l).1 h1).2.2 b (mG hb);have hbp:0<=b.DW/\b.DW<=3:=by simp[Ba.ok,AL]at AaJ;omega
   have um:(l.drop k).take (i+1-k)=(l.drop k).take (i-k)++[b]:=by
    rw[show i+1-k=(i-k)+1 by omega,take_add_one,List.getElem?_drop,show k+(i-k)=i by omega,hb];rfl
   simp(disch:=omega)only[go_sem,gm,hb];refine SO _ (i+1) ⟨by omega,by simp at Au;omega⟩ (by simp at Au;omega) (AQ.An ?_ ?_)
   all_goals(try simp(disch:=omega)only[go_sem])
   exact .sl (by rw[um];simp[cb,Ba.c])
  ·have Bf:i=l.length:=by simp at G9;omega
   subst Bf;rw[show (l.drop k).take (l.length-k)=l.drop k from List.take_of_length_le (by simp)];refine CK ⟨[],[],[5248]⟩ _ ?_;simp(disch:=omega)only[go_sem]
end Go.Rd
