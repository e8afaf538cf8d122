/- part 1 of the proof -/
import Derived.Test.YteliegkcmjimoaaGreatDoorX00
set_option linter.all false
namespace Go.Abs
def Cs(P:Program)(t:TypeId):Option (TypeId × Nat × Nat) :=
 match P.underlying t with
 |some (.slice e)=>match P.info? e with
  |some i=>match i.zero with
   |some z=>if z.cells.size=i.size/\0<i.size/\i.bytes<=32768 then some (e,i.size,i.bytes) else none
   |none=>none
  |none=>none
 |_=>none
def FJ{P:Program}{t e n b:Nat}(h:Cs P t=some (e,n,b)):P.underlying t=some (.slice e)/\∃ i z,P.info? e=some i/\i.zero=some z/\z.cells.size=n/\i.size=n/\i.bytes=b/\0<n/\b<=32768:=by
 unfold Cs at h;grind
def AZ(P:Program)(t:TypeId):Bool:=match P.underlying t with
 |some (.slice _)=>true
 |_=>false
section
variable {P:Program} {w:World}
def Hu{size n:Nat}{x:Value}{news:List Value}(hl:news.length=n*size)(hx:(∃ a c,x=.slice (some a) n c/\∀ (j:Nat) (v:Value),news[j]?=some v->w.cell? (a.add j)=some v)\/(n=0/\∃ c,x=.slice none 0 c)) :
 (Builtin.firstCells size n x).run P w=.ok news.toArray w:=by
 rcases hx with ⟨a,c,rfl,h⟩|⟨rfl,c,rfl⟩
 ·grind[run_firstCells_some]
 simp_all[Builtin.firstCells]
def cz(w:World)(size m:Nat)(x:Value)(news:List Value):Prop :=
 news.length=m*size/\((∃ a c,x=.slice (some a) m c/\∀ (j:Nat) (v:Value),news[j]?=some v->w.cell? (a.add j)=some v)\/(m=0/\∃ c,x=.slice none 0 c))
def Iu{t t2 ty e:TypeId}{i:TypeInfo}{z:Value}(ht:P.underlying t=some (.slice e))(IE:AZ P t2=true)(hi:P.info? e=some i)(hz:i.zero=some z)
 {base:Option Addr} {sLen sCap:Nat} {olds:List Value} (ho:cz w i.size sLen (.slice base sLen sCap) olds) {x:Value} {m:Nat} {news:List Value} (hx:cz w i.size m x news)
 (hg:sCap<sLen+m) (hle:sLen<=sCap) (hb:(sLen+m)*i.bytes<=140737488355328) (h63:sLen+m<=9223372036854775807) :
 (Builtin.append_ #[t,t2] ty #[.slice base sLen sCap,x]).run P w =
  .ok (.slice (some ⟨w.heap.size,0,none⟩) (sLen+m) (grownCap w (sLen+m) sCap e))
   (w.drew.alloc (.cells (olds.toArray++news.toArray++Builtin.zeroCells z.cells (grownCap w (sLen+m) sCap e-(sLen+m))) e)):=by
 have hn:¬ (sLen+m<=sCap):=by omega
 have AaZ:¬ (9223372036854775807<((sLen:Int)+(m:Int))):=by omega
 have Md:=growslice_fits (need:=sLen+m) (old:=sCap) hg hb;have Ahb:¬ (281474976710656<Builtin.nextslicecap (sLen+m) sCap*i.bytes):=by omega
 have hf:(Builtin.firstCells i.size m x).run P w.drew=.ok news.toArray w.drew:=Hu hx.1 (by rcases hx.2 with ⟨a,c,h1,h2⟩|h<;>simp_all);have hfo:(Builtin.firstCells i.size sLen (.slice base sLen sCap)).run P w.drew=.ok olds.toArray w.drew:=Hu ho.1 (by rcases ho.2 with ⟨a,c,h1,h2⟩|h<;>simp_all);have hlen:(Builtin.lenOf x).run P w=.ok m w:=by rcases hx.2 with ⟨a,c,rfl,_⟩|⟨rfl,c,rfl⟩<;>simp[Builtin.lenOf]
 unfold AZ at IE;split at IE
 ·rename_i e2 pC;simp[Builtin.append_,run_underlying ht,run_underlying pC,sizeOf,typeInfo,zeroValue,hi,hz,hlen,hn,AaZ,Ahb,Question.forced,hf,hfo,newRow,grownCap];grind
 grind
def JV{t t2 ty e:TypeId}{i:TypeInfo}(ht:P.underlying t=some (.slice e))(IE:AZ P t2=true)(hi:P.info? e=some i)
 {base:Option Addr} {sLen sCap:Nat} {x:Value} (hx:cz w i.size 0 x []) (hle:sLen<=sCap) :
 (Builtin.append_ #[t,t2] ty #[.slice base sLen sCap,x]).run P w=.ok (.slice base sLen sCap) w:=by
 have hf:(Builtin.firstCells i.size 0 x).run P w=.ok #[] w:=Hu (news:=[]) hx.1 hx.2;have hlen:(Builtin.lenOf x).run P w=.ok 0 w:=by rcases hx.2 with ⟨a,c,rfl,_⟩|⟨_,c,rfl⟩<;>simp[Builtin.lenOf]
 unfold AZ at IE;split at IE
 ·rename_i e2 pC;cases base<;>simp[Builtin.append_,run_underlying ht,run_underlying pC,sizeOf,typeInfo,hi,hlen,hle,hf,storeCells]
 grind
def Tx{t t2 ty e:TypeId}{i:TypeInfo}(ht:P.underlying t=some (.slice e))(IE:AZ P t2=true)(hi:P.info? e=some i)
 {b sLen sCap:Nat} {T:TypeId} {cur:Array Value} (hb:w.heap[b]?=some (.cells cur T (0,0))) {x:Value} {m:Nat} {news:List Value} (hx:cz w i.size m x news)
 (h1:∀ u∈news,u.oneCell'=true) (lN:sLen+m<=sCap) (Md:sLen*i.size+news.length<=cur.size) :
 (Builtin.append_ #[t,t2] ty #[.slice (some ⟨b,0,none⟩) sLen sCap,x]).run P w =
  .ok (.slice (some ⟨b,0,none⟩) (sLen+m) sCap) (w.setRow b (cur.toList.take (sLen*i.size)++news++cur.toList.drop (sLen*i.size+news.length)).toArray):=by
 have hf:(Builtin.firstCells i.size m x).run P w=.ok news.toArray w:=Hu hx.1 hx.2;have hlen:(Builtin.lenOf x).run P w=.ok m w:=by rcases hx.2 with ⟨a,c,rfl,_⟩|⟨rfl,c,rfl⟩<;>simp[Builtin.lenOf]
 have GR:=run_storeCells_at P b (sLen*i.size) T news 0 cur w hb (by omega) h1;simp only[Nat.add_zero]at GR;unfold AZ at IE;split at IE
 ·rename_i e2 pC;simp[Builtin.append_,run_underlying ht,run_underlying pC,sizeOf,typeInfo,hi,hlen,lN,hf,add_lit,GR]
 grind
end
section
variable {C:Ctx} {A:A0} {N:Nat} {g g':Gh} {st:St} {a:Act} {w w':World} {P:Program}
def elems(n:Nat):AV->Option (List (List AV))
 |.v (.slice _ 0 _)=>some []
 |.sl _ m es=>if m=n then some es else none
 |_=>none
def L1{n:Nat}{x:AV}{es:List (List AV)}{u:Value}(hn:0<n)(h:elems n x=some es)(hv:VR g w x u) :
 ∃ us:List Value,cz w n es.length u us/\CR (CK g) w es.flatten us/\(∀ e∈es,e.length=n):=by
 unfold elems at h;split at h
 ·rename_i a0 c0;simp at h;subst h;simp[VR]at hv;subst hv;refine⟨[],⟨by simp,?_⟩,by simp[CR],by simp⟩;cases a0<;>simp_all
 ·rename_i t m P3;split at h
  ·rename_i hm;simp at h;subst h;subst hm
   by_cases ho:∃ r lo,t=.own r lo
   ·obtain⟨r,lo,rfl⟩:=ho;simp only[VR,Dr]at hv;obtain⟨_,⟨rfl,rfl⟩|⟨_,rfl,a',cap,rfl,_⟩|⟨cap,cur,T,rfl,h2,h3,h5,h6,h7,h8⟩⟩:=hv
    ·exact⟨[],⟨by simp,.inr ⟨rfl,0,rfl⟩⟩,by simp[CR],by simp⟩
    ·refine⟨[],⟨by simp,?_⟩,by simp[CR],by simp⟩;cases a'<;>simp_all
    ·obtain⟨us,k1,k2,k3⟩:=Ea.list P3 _ m 0 h8;exact⟨us,⟨k2,.inl ⟨_,cap,rfl,λj v hj=>by grind⟩⟩,k1,Ea.lens h8⟩
   ·have hp:PR (CK g) w (.sl t m P3) u:=by
     simp_all[VR]
    simp only[PR]at hp;obtain⟨_,a',cap,rfl,h2,h3,h4,h5,rfl|⟨ad,rfl,h7,h8⟩⟩:=hp
    ·refine⟨[],⟨by simp,?_⟩,by simp[CR],by simp⟩;cases a'<;>grind
    ·obtain⟨us,k1,k2,k3⟩:=Ea.list P3 _ m 0 h8;exact⟨us,⟨k2,.inl ⟨_,cap,rfl,λj v hj=>by grind⟩⟩,k1,Ea.lens h8⟩
  grind
 grind
end
def Q9(k n:Nat)(st:St)(x y:AV):Option (AV × St) :=
 match elems n x,elems n y with
 |some es,some fs=>if es.length+fs.length<=4294967296 then match x with
  |.v (.slice none 0 0)=>some (.sl (.own k 0) n (es++fs),st.kill [k] [])
  |.sl (.own r 0) _ _=>some (.sl (.own k 0) n (es++fs),st.kill [r,k] [])
  |_=>none
  else none
 |_,_=>none
section
variable {C:Ctx} {A:A0} {N:Nat} {g g':Gh} {st:St} {a:Act} {w w':World} {P:Program}
def WR(g:Gh)(w:World)(S T:List Nat):Lasts S T g w g w:=⟨λ_ _ h=>⟨h,rfl⟩,λ_ _ _ _ h=>⟨h,rfl⟩,λ_ _=>rfl,λ_ _=>rfl⟩
def iT(g:Gh)(w:World)(S T:List Nat):Lasts S T g w g w.drew:=⟨λ_ _ h=>⟨h,rfl⟩,λ_ _ _ _ h=>⟨h,rfl⟩,λ_ _=>rfl,λ_ _=>rfl⟩
def R.drew(h:R C A N g st a w):R C A N g st a w.drew:=by
 have hl:=iT g w [] [];have:=h.lasts hl (h.fr.step hl rfl ⟨rfl,by simp⟩ rfl (Nat.le_refl _) (λb _ ho=>⟨ho,rfl⟩) (λ_ _ he=>by grind)) (λs cs hs _=>⟨(h.ob s cs hs).1,rfl⟩);grind[Q2]
theorem R.kill(h:R C A N g st a w)(S T:List Nat)(hT:∀ s∈A.ext,s∉T):R C A N g (st.kill S T) a w:=by
 have hl:=WR g w S T;exact h.lasts hl (h.fr.step hl rfl ⟨rfl,by omega⟩ rfl (Nat.le_refl _) (λb _ ho=>⟨ho,rfl⟩) hT) (λs cs hs _=>⟨(h.ob s cs hs).1,rfl⟩)
theorem pR{cs:List AV}{us:List Value}(h:CR (CK g) w cs us):CR (CK g) w.drew cs us:=CR.mono (w:=w) (w':=w.drew) (λ_ _ h=>⟨h,rfl⟩) h
def R.SA(h:R C A N g st a w){k n:Nat}{S:List Nat}(hk:k∈S){e:TypeId}{z:Value}(cm:z.cells.size=n)(hn:0<n){es fs:List (List AV)}{us vs:List Value}
 (h1:CR (CK g) w es.flatten us) (h2:CR (CK g) w fs.flatten vs) (hl1:∀ e∈es,e.length=n) (lK:∀ e∈fs,e.length=n) (hu:us.length=es.length*n) (hv:vs.length=fs.length*n)
 {cap:Nat} (dy:es.length+fs.length<=cap) (hm:cap<=maxLen) :
 ∃ g',R C A N g' (st.kill S []) a (w.drew.alloc (.cells (us.toArray++vs.toArray++Builtin.zeroCells z.cells (cap-(es.length+fs.length))) e)) /\
  VR g' (w.drew.alloc (.cells (us.toArray++vs.toArray++Builtin.zeroCells z.cells (cap-(es.length+fs.length))) e)) (.sl (.own k 0) n (es++fs)) (.slice (some ⟨w.heap.size,0,none⟩) (es.length+fs.length) cap):=by
 have:=h.drew.newRow k S hk (us.toArray++vs.toArray++Builtin.zeroCells z.cells (cap-(es.length+fs.length))) e n cap (es++fs) (us++vs) hn
  (λe he=>(List.mem_append.1 he).elim (hl1 e) (lK e))
  (by grind[CR.append,pR])
  (by
   simp[Array.size_append,List.size_toArray,size_zeroCells,cm,hu,hv];rw[<- Nat.add_mul,<- Nat.add_mul];grind)
  (by grind) hm
  (λj v hj=>by grind)
 simp_all
def af(hR:R C A N g st a w){t t2 ty e n b k:Nat}(ht:Cs P t=some (e,n,b))(IE:AZ P t2=true){x y z:AV}{ux uy:Value}(hx:VR g w x ux)(hy:VR g w y uy){st':St}
 (ha:Q9 k n st x y=some (z,st')):∃ u w' g',(Builtin.append_ #[t,t2] ty #[ux,uy]).run P w=.ok u w'/\R C A N g' st' a w'/\VR g' w' z u:=by
 obtain⟨hu,i,zv,hi,hz,cm,Hb,ea,hn,hb⟩:=FJ ht;subst Hb;unfold Q9 at ha;split at ha
 ·rename_i es fs hes Su;split at ha
  ·rename_i hlen;obtain⟨vs,sy,py,ly⟩:=L1 hn Su hy;obtain⟨us,sx,px,lx⟩:=L1 hn hes hx;have S2:(es.length+fs.length)*i.bytes<=140737488355328:=by
    have:(es.length+fs.length)*i.bytes<=4294967296*32768:=Nat.mul_le_mul hlen (by omega);omega
   have dz:∀ old,grownCap w (es.length+fs.length) old e<=maxLen:=λold=>grownCap_le_maxLen w _ old e (by grind[maxLen])
   have bb:∀ old,es.length+fs.length<=grownCap w (es.length+fs.length) old e:=λold=>grownCap_ge w _ old e
   split at ha
   ·-- nil
    simp at ha;obtain⟨rfl,rfl⟩:=ha;have Abt:es=[]:=by grind[elems]
    subst Abt;simp[VR]at hx;subst hx
    by_cases hm:fs.length=0
    ·have hf:fs=[]:=List.eq_nil_of_length_eq_zero hm;subst hf;have hv0:vs=[]:=List.eq_nil_of_length_eq_zero (by simpa using sy.1);subst hv0;exact⟨_,_,g,JV hu IE hi sy (Nat.le_refl 0),hR.kill [k] [] (λ_ _ h=>by cases h),by simp_all[VR,Dr]⟩
    ·have GI:=Iu (ty:=ty) hu IE hi hz (base:=none) (sLen:=0) (sCap:=0) (olds:=[]) ⟨by simp,.inr ⟨rfl,0,rfl⟩⟩ sy (by omega) (Nat.le_refl 0) (by omega) (by omega);obtain⟨g',k1,k2⟩:=hR.SA (k:=k) (S:=[k]) (by simp) (e:=e) cm hn (es:=[]) (us:=[]) (by simp[CR]) py (by simp) ly (by simp) sy.1 (bb 0) (dz 0);grind
   ·rename_i r m P3;simp at ha;obtain⟨rfl,rfl⟩:=ha;have Ahw:m=i.size/\P3=es:=by grind[elems]
    obtain⟨rfl,rfl⟩:=Ahw;simp only[VR,Dr]at hx;obtain⟨_,⟨rfl,rfl⟩|⟨h0,_⟩|⟨cap,cur,T,rfl,h2,h3,h5,h6,h7,h8⟩⟩:=hx
    ·by_cases hm:fs.length=0
     ·have hf:fs=[]:=List.eq_nil_of_length_eq_zero hm;subst hf;have hv0:vs=[]:=List.eq_nil_of_length_eq_zero (by simpa using sy.1);subst hv0;exact⟨_,_,g,JV hu IE hi sy (Nat.le_refl 0),hR.kill [r,k] [] (λ_ _ h=>by cases h),by simp_all[VR,Dr]⟩
     ·have GI:=Iu (ty:=ty) hu IE hi hz (base:=none) (sLen:=0) (sCap:=0) (olds:=[]) ⟨by simp,.inr ⟨rfl,0,rfl⟩⟩ sy (by omega) (Nat.le_refl 0) (by omega) (by omega);obtain⟨g',k1,k2⟩:=hR.SA (k:=k) (S:=[r,k]) (by simp) (e:=e) cm hn (es:=[]) (us:=[]) (by simp[CR]) py (by simp) ly (by simp) sy.1 (bb 0) (dz 0);grind
    ·omega
    ·simp only[Nat.zero_mul,Nat.zero_add]at h7 h8 sx ⊢
     by_cases lN:P3.length+fs.length<=cap
     ·-- in place
      have Md:P3.length*i.size+vs.length<=cur.size:=by rw[sy.1,<- Nat.add_mul];exact Nat.le_trans (Nat.mul_le_mul_right _ lN) h7
      have GI:=Tx (ty:=ty) hu IE hi h6 sy (CR.one py) lN Md;generalize UP:(cur.toList.take (P3.length*i.size)++vs++cur.toList.drop (P3.length*i.size+vs.length)).toArray=new at GI;have hnb:∀ b',b'≠g.row r->(w.setRow (g.row r) new).heap[b']?=w.heap[b']?:=λb' N8=>setRow_other w _ b' new N8
      have hl:Lasts [r,k] [] g w (g.newRow (g.row r) k) (w.setRow (g.row r) new):=by
       refine⟨λb' _ ho=>?_,λb' q _ hq ho=>?_,λq hq=>?_,λ_ _=>rfl⟩
       ·grind[Gh.newRow]
       ·grind[Gh.newRow]
       grind[Gh.newRow]
      refine⟨_,_,g.newRow (g.row r) k,GI,?_,?_⟩
      ·refine hR.lasts hl (hR.fr.step hl rfl ⟨rfl,by simp⟩ rfl (by simp) (λb' _ ho=>?_) (λ_ _ h=>by cases h)) (λs cs hs _=>?_)
       ·grind[Gh.newRow]
       ·have ho:=(hR.ob s cs hs).1;grind[Gh.newRow]
      ·simp only[VR,Dr];have xm:(g.newRow (g.row r) k).row k=g.row r:=by simp[Gh.newRow]
       refine⟨hn,.inr (.inr ⟨cap,new,T,?_,?_,by omega,?_,?_,?_,?_⟩)⟩
       ·grind
       ·grind
       ·grind[Gh.newRow]
       ·grind[setRow_heap]
       ·grind
       ·rw[xm];refine Ea.FO (P3++fs) (us++vs) _ _ 0 (λe he=>(List.mem_append.1 he).elim (lx e) (ly e)) ?_ ?_
        ·rw[List.flatten_append];exact CR.append (CR.mono hl.QX px) (CR.mono hl.QX py)
        ·intro j v hj;simp[add_lit];rw[cell_of_row _ _ _ _ _ _ (setRow_heap w _ cur new T _ h6),<- UP];have hux:us.length=P3.length*i.size:=sx.1;have AjT:cur.toList.take (P3.length*i.size)=us:=by
          apply List.ext_getElem?;intro q;rw[List.getElem?_take]
          by_cases hq:q<P3.length*i.size
          ·rw[if_pos hq];have FI:us[q]?=some (us[q]'(by omega)):=List.getElem?_eq_getElem (by omega);rcases sx.2 with ⟨a',c',he,Ue⟩|⟨h0,_⟩<;>grind[add_lit,cell_of_row]
          grind
         grind
     ·have GI:=Iu (ty:=ty) hu IE hi hz (base:=some ⟨g.row r,0,none⟩) (sLen:=P3.length) (sCap:=cap) (olds:=us) sx sy (by omega) h2 S2 (by omega);obtain⟨g',k1,k2⟩:=hR.SA (k:=k) (S:=[r,k]) (by simp) (e:=e) cm hn px py lx ly sx.1 sy.1 (bb cap) (dz cap);grind
   grind
  grind
 grind
end
end Go.Abs
namespace Go.Abs
def zeroOf(P:Program)(t:TypeId):Option (List Value):=((P.info? t).bind (·.zero)).map (·.cells.toList)
def vals(zs:List Value):List AV:=zs.map .v
def Oy(place:Nat->Option (Nat × Nat))(L:List AV):List (Nat × AV)->Option (List AV)
 |[]=>some L
 |(i,x)::rest=>match place i with
  |none=>none
  |some (off,size)=>if DD x.cells=true/\x.cells.length=size/\off+size<=L.length then Oy place (cut L off x.cells) rest else none
def chunk(n:Nat):Nat->List AV->List (List AV)
 | 0,_=>[]
 | k+1,L=>L.take n::chunk n k (L.drop n)
def SG(n:Nat):∀ (k:Nat) (L:List AV),L.length=k*n->(chunk n k L).length=k/\(∀ e∈chunk n k L,e.length=n)/\(chunk n k L).flatten=L
 | 0,L,h=>by grind[chunk]
 | k+1,L,h=>by
  have hn:n<=L.length:=by grind
  obtain⟨h1,h2,h3⟩:=SG n k (L.drop n) (by grind);simp_all[chunk]
section
variable {C:Ctx} {A:A0} {N:Nat} {g g':Gh} {st:St} {a:Act} {w w':World} {P:Program}
theorem Kv(zs:List Value):Bf g w (vals zs) zs:=by induction zs<;>grind[vals,Bf,VR]
def nD(v:List Value):∀ (k off:Nat) (arr:Array Value),off+k+v.length<=arr.size ->
 ((v.zipIdx k).foldl (λcs (p:Value × Nat)=>cs.setIfInBounds (off+p.2) p.1) arr).toList=arr.toList.take (off+k)++v++arr.toList.drop (off+k+v.length):=by
 induction v with
 | nil=>simp
 | cons x v ih =>
  intro k off arr h;simp at h;simp only[List.zipIdx_cons,List.foldl_cons];rw[ih (k+1) off _ (by grind)];simp only[Array.toList_setIfInBounds,List.length_cons];have AP:off+k<arr.toList.length:=by grind
  rw[show off+(k+1)=(off+k)+1 from by omega];rw[List.take_succ_eq_append_getElem (by grind)];simp only[List.getElem_set_self,List.take_set_of_le (Nat.le_refl _),List.append_assoc,List.cons_append];grind[List.drop_set_of_lt]
def nE(v:Array Value)(off:Nat)(arr:Array Value)(h:off+v.size<=arr.size) :
 (v.zipIdx.foldl (λcs (p:Value × Nat)=>cs.setIfInBounds (off+p.2) p.1) arr).toList=arr.toList.take off++v.toList++arr.toList.drop (off+v.size):=by
 have:=nD v.toList 0 off arr (by omega);simp only[Nat.add_zero,Array.length_toList]at this;rw[<- this,<- Array.foldl_toList];simp
def Nd(place:Nat->Option (Nat × Nat)):∀ (parts:List (Nat × AV)) (pv:List (Nat × Value)) (L:List AV) (cur:Array Value) (L':List AV),
 parts.map (·.1)=pv.map (·.1)->Bf g w (parts.map (·.2)) (pv.map (·.2))->Bf g w L cur.toList->Oy place L parts=some L'->∃ nh,Instr.fill place cur pv=some nh/\Bf g w L' nh.toList
 |[],[],L,cur,L',_,_,hL,h=>by grind[Oy,Instr.fill]
 |[],_::_,_,_,_,h,_,_,_=>by grind
 |_::_,[],_,_,_,h,_,_,_=>by grind
 |(i,x)::parts,(j,v)::pv,L,cur,L',hi,hp,hL,h=>by
  simp at hi;obtain⟨rfl,hi⟩:=hi;simp[Bf]at hp;simp[Oy]at h;split at h
  ·cases h
  ·rename_i off size Sv;split at h
   ·rename_i hc;obtain⟨ho,hs,hle⟩:=hc;have hx:=VR.cells hp.1 ho;have lR:v.cells.size=size:=by rw[<- hs,Bf.length hx];simp
    have RN:L.length=cur.size:=by rw[Bf.length hL];simp
    have AlP:¬ (v.cells.size≠size\/off+v.cells.size > cur.size):=by omega
    have key:=nE v.cells off cur (by omega);have:=Nd place parts pv (cut L off x.cells) (v.cells.zipIdx.foldl (λcs (p:Value × Nat)=>cs.setIfInBounds (off+p.2) p.1) cur) L' hi hp.2 (by grind[cut,Bf.append,Bf.take,Bf.drop]) h;obtain⟨nh,h1,h2⟩:=this;refine⟨nh,?_,h2⟩;have AjG:(decide (v.cells.size≠size)||decide (off+v.cells.size > cur.size))=false:=by grind
    simp_all[Instr.fill]
   grind
def x4{S:List Nat}:∀ {c p:AV} {u:Value},VR g w c u->IG c=some p->(∀ r∈rowsOf [c],r∈S)->KR c=true->PR (CK (g.freeze S)) w p u
 |.undef,_,_,_,_,_,ho=>by grind[KR]
 |.v x,p,u,hv,hp,_,ho=>by
  simp[IG]at hp;subst hp;simp[VR]at hv;simp[PR];exact⟨hv,ho⟩
 |.sl (.own r 0) n es,p,u,hv,hp,hs,_=>by
  simp[IG]at hp;subst hp;have:=VR.freeze (S:=S) _ u hv;simp_all[rowsOf,AV.freeze,AV.Cz,AV.C7,VR]
 |.sl (.own r (lo+1)) n es,p,u,hv,hp,hs,_=>by simp[IG]at hp
 |.sl .no n es,p,u,hv,hp,hs,_=>by
  simp[IG]at hp;subst hp;have:=VR.freeze (S:=S) _ u hv;grind[VR,AV.freeze,AV.Cz]
 |.sl .full n es,p,u,hv,hp,hs,_=>by
  simp[IG]at hp;subst hp;have:=VR.freeze (S:=S) _ u hv;grind[VR,AV.freeze,AV.Cz]
 |.agg _,_,_,_,hp,_,_=>by grind[IG]
 |.BC _,_,_,_,hp,_,_=>by grind[IG]
 |.ptr _ _,_,_,_,hp,_,_=>by grind[IG]
 |.ep _ _ _ _,_,_,_,hp,_,_=>by grind[IG]
 |.fn f [],p,u,hv,hp,hs,_=>by
  simp[IG]at hp;subst hp;simp[VR]at hv;obtain⟨us,rfl,h⟩:=hv
  match h':us.toList,h with
  |[],_=>simp_all[PR]
  |_::_,h=>grind[Bf]
 |.fn _ (_::_),_,_,_,hp,_,_=>by grind[IG]
 |.mv _ _,_,_,_,hp,_,_=>by grind[IG]
 |.mp _,_,_,_,hp,_,_=>by grind[IG]
 |.Kb _ _,_,_,_,hp,_,_=>by grind[IG]
 |.mem _ _,_,_,_,hp,_,_=>by grind[IG]
def Uu(c:AV)(cs:List AV)(r:Nat):r∈rowsOf (c::cs)↔r∈rowsOf [c]\/r∈rowsOf cs:=by
 cases c with
 | sl t n es =>
  cases t with
  | own q lo=>cases lo<;>simp[rowsOf]
  |_=>simp[rowsOf]
 |_=>simp[rowsOf]
def Sa{S:List Nat}:∀ {cs ps:List AV} {us:List Value},Bf g w cs us->P9 cs=some ps->(∀ r∈rowsOf cs,r∈S)->DD cs=true->CR (CK (g.freeze S)) w ps us
 |[],_,[],_,hp,_,_=>by grind[P9,CR]
 |[],_,_::_,h,_,_,_=>by grind[Bf]
 |_::_,_,[],h,_,_,_=>by grind[Bf]
 | c::cs,ps,u::us,h,hp,hs,ho=>by
  simp[Bf]at h;simp[DD]at ho;simp only[P9]at hp;split at hp
  ·rename_i x xs hx zg;simp only[Option.some.injEq]at hp;subst hp;simp only[CR];exact⟨x4 h.1 hx (λr hr=>hs r ((Uu c cs r).2 (.inl hr))) ho.1,Sa h.2 zg (λr hr=>hs r ((Uu c cs r).2 (.inr hr))) ho.2⟩
  ·cases hp
end
def Zl(k n:Nat)(zs:List Value)(st:St)(l c:Int):Option (AV × St) :=
 if 0<=l/\l<=c/\c<=4294967296/\DD (vals zs)=true then some (.sl (.own k 0) n (List.replicate l.toNat (vals zs)),st.kill [k] []) else none
def sk(k n len:Nat)(zs:List Value)(st:St)(parts:List (Nat × AV)):Option (AV × St) :=
 match Oy (λi=>some (i*n,n)) (List.replicate len (vals zs)).flatten parts with
 |some L=>match P9 L with
  |some ps=>if DD L=true/\ps.length=len*n/\len*n<=16777216 then some (.sl (.own k 0) n (chunk n len ps),(st.freeze (rowsOf L)).kill [k] []) else none
  |none=>if n=1/\0<len/\L.length=len/\len<=16777216 then some (.mem true L,st) else none
 |none=>none
section
variable {C:Ctx} {A:A0} {N:Nat} {g g':Gh} {st:St} {a:Act} {w w':World} {P:Program}
def JM{t:TypeId}{zs:List Value}{i:TypeInfo}{z:Value}(h:zeroOf P t=some zs)(hi:P.info? t=some i)(hz:i.zero=some z):zs=z.cells.toList:=by grind[zeroOf]
def DN(zs:List Value):∀ (l j:Nat) (v:Value),(List.replicate l zs).flatten[j]?=some v->zs[j%zs.length]?=some v/\j<l*zs.length
 | 0,j,v,h=>by grind
 | l+1,j,v,h=>by
  rw[List.replicate_succ,List.flatten_cons,List.getElem?_append]at h;split at h
  ·grind[Nat.mod_eq_of_lt]
  ·rename_i hj;obtain⟨h1,h2⟩:=DN zs l _ v h;grind[Nat.mod_eq_sub_mod]
def Oc{ro:Nat->Prop}:∀ (zs:List Value),DD (vals zs)=true->CR ro w (vals zs) zs
 |[],_=>by simp[vals,CR]
 | z::zs,h=>by
  simp[vals,List.map_cons,DD,Bool.and_eq_true,KR]at h;simp only[vals,List.map_cons,CR,PR];exact⟨⟨trivial,h.1⟩,Oc zs h.2⟩
def I7{ro:Nat->Prop}{cs:List AV}{us:List Value}(h:CR ro w cs us):∀ l:Nat,CR ro w (List.replicate l cs).flatten (List.replicate l us).flatten
 | 0=>by simp[CR]
 | l+1=>by
  rw[List.replicate_succ,List.replicate_succ,List.flatten_cons,List.flatten_cons];exact CR.append h (I7 h l)
def jc(hR:R C A N g st a w){t e n b k:Nat}{zs:List Value}(ht:Cs P t=some (e,n,b))(cm:zeroOf P e=some zs){kl kc:IntKind}{l c:Int}{z:AV}{st':St}(ha:Zl k n zs st l c=some (z,st')) :
 ∃ u w' g',(Instr.makeSlice t (.int kl l) (.int kc c)).run P w=.ok u w'/\R C A N g' st' a w'/\VR g' w' z u:=by
 obtain⟨hu,i,zv,hi,hz,Afb,Hb,ea,hn,hb⟩:=FJ ht;have pK:=JM cm hi hz;unfold Zl at ha;split at ha
 ·rename_i hc;obtain⟨h0,hlc,Abn,CC⟩:=hc;simp at ha;obtain⟨rfl,rfl⟩:=ha;have S2:(i.bytes:Int)*c<=281474976710656:=by
   have:(i.bytes:Int)*c<=32768*4294967296:=Int.mul_le_mul (by omega) Abn (by omega) (by omega);omega
  have GI:=run_make (P:=P) w t e i zv hu hi hz kl kc l c h0 hlc S2 (by omega);have hzl:zs.length=n:=by grind
  obtain⟨g',k1,k2⟩:=hR.newRow k [k] (by simp) (madeCells zv.cells (c.toNat*i.size)) e n c.toNat (List.replicate l.toNat (vals zs)) (List.replicate l.toNat zs).flatten hn
   (λe' he=>by grind[vals])
   (I7 (Oc zs CC) _)
   (by rw[size_madeCells,Hb]) (by grind) (by grind[maxLen])
   (λj v hj=>by
    obtain⟨h1,h2⟩:=DN zs _ _ _ hj;have Alz:j<c.toNat*i.size:=by
     rw[hzl]at h2;rw[Hb];exact Nat.lt_of_lt_of_le h2 (Nat.mul_le_mul_right _ (by omega))
    simp_all[madeCells,getElem!_def])
  grind
 grind
def R.AbW(h:R C A N g st a w)(xj:w'.os=w.os)(lQ:Od w w')(xk:w'.output=w.output)(Hb:w'.heap.size=w.heap.size+1)(hold:∀ b,b<w.heap.size->w'.heap[b]?=w.heap[b]?) :
 ∃ g',R C A N g' st a w'/\CK g' w.heap.size/\(∀ b,b<w.heap.size->g'.own b=g.own b)/\Lasts [] [] g w g' w':=by
 let g':Gh:={ g with own:=λx=>if x=w.heap.size then .ro else g.own x }
 have hl:Lasts [] [] g w g' w':=⟨λb hb ho=>⟨by grind,hold b hb⟩,λb q hb _ ho=>⟨by grind,hold b hb⟩,λ_ _=>rfl,λ_ _=>rfl⟩;refine⟨g',?_,by simp[g',CK],λb hb=>by grind,hl⟩;have:=h.lasts hl (h.fr.step hl xj lQ xk (by omega) (λb hb ho=>⟨by grind,hold b hb⟩) (λ_ _ he=>by grind)) (λs cs hs _=>by
  have ho:=h.ob s cs hs;exact⟨by simp[g',Nat.ne_of_lt ho.lt,ho.1],hold _ ho.lt⟩)
 grind[Q2]
def ou(hR:R C A N g st a w){t e n b k len:Nat}{zs:List Value}(ht:Cs P t=some (e,n,b))(cm:zeroOf P e=some zs){parts:List (Nat × AV)}{pv:List (Nat × Value)}
 (iJ:parts.map (·.1)=pv.map (·.1)) (og:Bf g w (parts.map (·.2)) (pv.map (·.2))) {z:AV} {st':St} (ha:sk k n len zs st parts=some (z,st')) :
 ∃ u w' g',(Instr.buildSlice t len pv.toArray).run P w=.ok u w'/\R C A N g' st' a w'/\VR g' w' z u:=by
 obtain⟨hu,i,zv,hi,hz,Afb,Hb,ea,hn,hb⟩:=FJ ht;have pK:=JM cm hi hz;have hzl:zs.length=n:=by grind
 unfold sk at ha;split at ha
 ·rename_i L hL;have hz0:Bf g w (List.replicate len (vals zs)).flatten (List.replicate len zs).flatten:=by
   have:∀ m:Nat,Bf g w (List.replicate m (vals zs)).flatten (List.replicate m zs).flatten:=by
    intro m
    induction m<;>grind[Bf,Bf.append,Kv]
   grind
  have Ahi:((Array.range (len*n)).map (zv.cells[·%zv.cells.size]!)).toList=(List.replicate len zs).flatten:=by
   apply List.ext_getElem?;intro j;cases hj:(List.replicate len zs).flatten[j]? with
   |none =>
    simp_all
   |some v =>
    obtain⟨h1,h2⟩:=DN zs _ _ _ hj;grind
  obtain⟨cur,hf,nS⟩:=Nd (λi=>some (i*n,n)) parts pv _ ((Array.range (len*n)).map (zv.cells[·%zv.cells.size]!)) L iJ og (by grind) hL;split at ha
  ·rename_i ps iL;split at ha
   ·rename_i hc;obtain⟨CC,Sv,nP⟩:=hc;simp at ha;obtain⟨rfl,rfl⟩:=ha;have hLl:L.length=len*n:=by
     rw[<- Sv];have:∀ (cs ps:List AV),P9 cs=some ps->ps.length=cs.length:=by
      intro cs
      induction cs<;>grind[P9]
     grind
    obtain⟨c1,c2,c3⟩:=SG n len ps Sv;have Vq:=Sa (S:=rowsOf L) nS iL (λr hr=>hr) CC;obtain⟨g',k1,k2⟩:=(hR.freeze (rowsOf L)).newRow k [k] (by simp) cur e n len (chunk n len ps) cur.toList hn c2 (by grind)
     (by have:=Bf.length nS;grind) (by omega) (by simp only[maxLen];have:=Nat.le_mul_of_pos_right len hn;omega)
     (λj v hj=>by grind)
    refine⟨_,_,g',?_,k1,k2⟩;have hnb:¬ (len*n > 2 ^ 24):=by omega
    have pD:Instr.fill (λi=>some (i*n,n)) (if len*n=0 then #[] else (Array.range (len*n)).map (zv.cells[·%zv.cells.size]!)) pv=some cur:=by grind
    rw[c1]
    by_cases h0:len*n=0
    ·simp[h0]at pD;simp[Instr.buildSlice,run_underlying hu,sizeOf,typeInfo,hi,Hb,h0,Array.range_zero',pD,newRow]
    ·simp[h0]at pD;simp[Instr.buildSlice,run_underlying hu,sizeOf,typeInfo,hi,Hb,h0,zeroValue,hz,pD,newRow];omega
   grind
  ·split at ha
   ·rename_i hc;obtain⟨rfl,S7,hLl,nP⟩:=hc;simp at ha;obtain⟨rfl,rfl⟩:=ha;have RN:cur.size=len:=by have:=Bf.length nS;grind
    obtain⟨g',k1,k2,_,hl⟩:=hR.AbW (w':=w.alloc (.cells cur e)) rfl ⟨rfl,Nat.le_refl _⟩ rfl (by simp) (λb hb=>At w _ b hb);refine⟨.slice (some ⟨w.heap.size,0,none⟩) len len,w.alloc (.cells cur e),g',?_,k1,?_⟩
    ·have hnb:¬ (len > 2 ^ 24):=by omega
     have h0:¬ (len=0):=by omega
     simp at hf;simp[Instr.buildSlice,run_underlying hu,sizeOf,typeInfo,hi,Hb,h0,zeroValue,hz,hf,newRow];omega
    ·have hv:=Bf.lasts hl _ _ nS;rw[Kn]at hv;simp only[VR,gw];refine⟨⟨w.heap.size,0,none⟩,cur.toList,k2,⟨λhe=>?_,λi hi=>?_⟩,hv,len,by simp[RN],by simp[RN],by simp only[maxLen];omega⟩<;>grind[Array.length_toList,add_lit,cell_of_row,heap_alloc_new]
   grind
 grind
end
end Go.Abs
namespace Go.Abs
def P6:AV->Option Nat
 |.v (.int _ i)=>if 0<=i then some i.toNat else none
 |_=>none
def K3(n:Nat)(full:Bool)(l h:Nat)(st:St):AV->Option (AV × St)
 |.sl (.own r lo) m es=>if m=n/\l<=h/\h<=es.length then
  if full then (if lo=0 then some (.sl .full n ((es.drop l).take (h-l)),st.freeze [r]) else none)
  else some (.sl (.own r (lo+l)) n ((es.drop l).take (h-l)),st)
  else none
 |.sl t m es=>if m=n/\l<=h/\h<=es.length then some (.sl (if full then .full else .no) n ((es.drop l).take (h-l)),st) else none
 |.v (.slice none 0 0)=>if l=0/\h=0 then some (.v (.slice none 0 0),st) else none
 |_=>none
section
variable {C:Ctx} {A:A0} {N:Nat} {g g':Gh} {st:St} {a:Act} {w w':World} {P:Program}
def Ea.sub{ro:Nat->Prop}:∀ (es:List (List AV)) (ad:Addr) (n i:Nat),Ea ro w es ad n i->∀ l k:Nat,Ea ro w ((es.drop l).take k) ad n (i+l)
 |[],_,_,_,_,l,k=>by simp[Ea]
 | e::es,ad,n,i,h,0,0=>by simp[Ea]
 | e::es,ad,n,i,h,0,k+1=>by
  simp[Ea]at h;simp only[List.drop_zero,List.take_succ_cons,Ea];exact⟨h.1,h.2.1,by simpa using Ea.sub es ad n (i+1) h.2.2 0 k⟩
 | e::es,ad,n,i,h,l+1,k=>by
  simp[Ea]at h;have:=Ea.sub es ad n (i+1) h.2.2 l k;grind
theorem Ea.shift{ro:Nat->Prop}:∀ (es:List (List AV)) (ad:Addr) (n l i:Nat),Ea ro w es ad n (l+i)->Ea ro w es (ad.add (l*n)) n i
 |[],_,_,_,_,_=>by simp[Ea]
 | e::es,ad,n,l,i,h=>by
  simp only[Ea]at h ⊢;exact⟨h.1,EG.shift e ad (l*n) (i*n) (by rw[<- Nat.add_mul];exact h.2.1),Ea.shift es ad n l (i+1) (by rw[<- Nat.add_assoc];exact h.2.2)⟩
def F8{t e:TypeId}{size:Nat}(ht:P.underlying t=some (.slice e))(hs:Cn P e=some size){a:Option Addr}{len cap l h:Nat}{lo hi mx:Option Value}{kl kh km:IntKind}
 (Ug:lo=none/\l=0\/lo=some (.int kl l)) (xc:hi=none/\h=len\/hi=some (.int kh h)) (full:Bool) (dC:mx=if full then some (.int km h) else none) (xa:full=true->hi=some (.int kh h))
 (h1:l<=h) (h2:h<=len) (h3:len<=cap) :
 (Instr.slice t (.slice a len cap) lo hi mx).run P w=.ok (.slice (if (if full then h else cap)=l then a else a.map (·.add (l*size))) (h-l) ((if full then h else cap)-l)) w:=by
 have b1:∀ (k:IntKind) (c:BoundsCode),(Instr.sliceBound (.int k h) cap c).run P w=.ok h w:=λk c=>by grind[run_sliceBound]
 have b2:∀ (k:IntKind) (c:BoundsCode),(Instr.sliceBound (.int k h) h c).run P w=.ok h w:=λk c=>by grind[run_sliceBound]
 have b3:∀ (k:IntKind) (c:BoundsCode),(Instr.sliceBound (.int k l) h c).run P w=.ok l w:=λk c=>by grind[run_sliceBound]
 have b4:∀ (k:IntKind) (c:BoundsCode),l<=len->(Instr.sliceBound (.int k l) len c).run P w=.ok l w:=λk c hh=>by grind[run_sliceBound]
 cases full with
 | true =>
  have hh:=xa rfl;subst hh;simp at dC;subst dC;rcases Ug with ⟨rfl,rfl⟩|rfl
  ·simp_all[Instr.slice,run_underlying,Instr.sliceBounds,run_sizeOf]
  ·simp[Instr.slice,run_underlying ht,Instr.sliceBounds,b1,b2,b3,run_sizeOf hs]
 | false =>
  simp at dC;subst dC;rcases Ug with ⟨rfl,rfl⟩|rfl<;>rcases xc with ⟨rfl,rfl⟩|rfl
  ·simp[Instr.slice,run_underlying ht,Instr.sliceBounds,run_sizeOf hs]
  ·simp_all[Instr.slice,run_underlying,Instr.sliceBounds,run_sizeOf]
  ·simp_all[Instr.slice,run_underlying,Instr.sliceBounds,run_sizeOf]
  ·simp[Instr.slice,run_underlying ht,Instr.sliceBounds,b1,b3,run_sizeOf hs]
def Pa(hR:R C A N g st a w){t e:TypeId}{n:Nat}(ht:AE P t=some (e,n)){x z:AV}{ux:Value}(hx:VR g w x ux){l h len:Nat}{lo hi mx:Option Value}{kl kh km:IntKind}{full:Bool}
 (hlen:∀ es,elems n x=some es->es.length=len)
 (Ug:lo=none/\l=0\/lo=some (.int kl l)) (xc:hi=none/\h=len\/hi=some (.int kh h)) (dC:mx=if full then some (.int km h) else none) (xa:full=true->hi=some (.int kh h)) {st':St}
 (ha:K3 n full l h st x=some (z,st')):∃ u g',(Instr.slice t ux lo hi mx).run P w=.ok u w/\R C A N g' st' a w/\VR g' w z u/\(((∀ r lo m es,x≠.sl (.own r lo) m es)\/full=false)->g'=g):=by
 have zc:P.underlying t=some (.slice e)/\Cn P e=some n:=by
  unfold AE at ht;split at ht
  ·rename_i e' he;obtain⟨n',iH,hh⟩:=Option.map_eq_some_iff.1 ht;grind
  grind
 obtain⟨lP,IE⟩:=zc;unfold K3 at ha;split at ha
 ·rename_i r lo' m es;split at ha
  ·rename_i hc;obtain⟨rfl,h1,h2⟩:=hc;have hl:es.length=len:=hlen es (by simp[elems]);subst hl;simp only[VR,Dr]at hx;obtain⟨hn,hx⟩:=hx;have rK:((es.drop l).take (h-l)).length=h-l:=by grind
   split at ha
   ·rename_i hf;subst hf;split at ha
    ·rename_i h0;subst h0;simp at ha;obtain⟨rfl,rfl⟩:=ha;rcases hx with ⟨rfl,rfl⟩|⟨h0,_⟩|⟨cap,cur,T,rfl,k2,k3,k5,k6,k7,k8⟩
     ·simp only[List.length_nil]at h2;have h0:h=0:=by omega
      subst h0;have uC:l=0:=by omega
      subst uC;have GI:=F8 (w:=w) lP IE (a:=none) (len:=0) (cap:=0) Ug xc true dC xa (Nat.le_refl 0) (Nat.le_refl 0) (Nat.le_refl 0);refine⟨_,_,GI,hR.freeze [r],?_,λh=>by grind⟩;grind[VR,PR]
     ·omega
     ·have GI:=F8 (w:=w) lP IE Ug xc true dC xa h1 h2 k2 (a:=some ⟨g.row r,0*m,none⟩);refine⟨_,_,GI,hR.freeze [r],?_,λh=>by grind⟩;simp only[VR,PR,if_true];refine⟨(λ_ _ h=>by cases h),_,_,by rw[rK],by omega,by omega,(λ_=>by omega),hn,?_⟩
      by_cases hlh:h=l
      ·simp_all
      ·refine .inr ⟨_,by rw[if_neg hlh];rfl,(by show (Gh.freeze [r] g).own ((⟨g.row r,0*m,none⟩:Addr).add (l*m)).block=.ro;grind[GV,WB]),?_⟩;have:=Ea.sub es _ m 0 (Ea.Ls (K0 (S:=[r])) es _ m 0 rfl k8) l (h-l);simp_all[Ea.shift]
    grind
   ·rename_i hf;have pD:full=false:=by grind
    subst pD;simp at ha;obtain⟨rfl,rfl⟩:=ha;rcases hx with ⟨rfl,rfl⟩|⟨h0,rfl,a',cap,rfl,dy⟩|⟨cap,cur,T,rfl,k2,k3,k5,k6,k7,k8⟩
    ·simp only[List.length_nil]at h2;have h0:h=0:=by omega
     subst h0;have uC:l=0:=by omega
     subst uC;have GI:=F8 (w:=w) lP IE (a:=none) (len:=0) (cap:=0) Ug xc false dC xa (Nat.le_refl 0) (Nat.le_refl 0) (Nat.le_refl 0);simp_all[VR,Dr]
    ·simp only[List.length_nil]at h2;have h0':h=0:=by omega
     subst h0';have uC:l=0:=by omega
     subst uC;have GI:=F8 (w:=w) lP IE (a:=a') (len:=0) (cap:=cap) Ug xc false dC xa (Nat.le_refl 0) (Nat.le_refl 0) (Nat.zero_le _);refine⟨_,_,GI,hR,?_,λ_=>rfl⟩;simp only[VR,Dr];grind
    ·have GI:=F8 (w:=w) lP IE Ug xc false dC xa h1 h2 k2 (a:=some ⟨g.row r,lo'*m,none⟩);refine⟨_,_,GI,hR,?_,λ_=>rfl⟩;simp only[VR,Dr];refine⟨hn,?_⟩;have GJ:=Ea.sub es _ m 0 k8 l (h-l);rw[Nat.zero_add]at GJ;have hsh:=Ea.shift _ _ m l 0 (by simpa using GJ);rw[add_lit,<- Nat.add_mul]at hsh
     by_cases RN:cap=l
     ·have uC:h=l:=by omega
      by_cases hz:lo'+l=0
      ·simp_all
      grind
     ·refine .inr (.inr ⟨cap-l,cur,T,?_,by omega,by omega,k5,k6,by grind,hsh⟩);grind[add_lit]
  grind
 ·rename_i t' m es Y5;split at ha
  ·rename_i hc;obtain⟨rfl,h1,h2⟩:=hc;simp at ha;obtain⟨rfl,rfl⟩:=ha;have hl:es.length=len:=hlen es (by simp[elems]);subst hl;have rK:((es.drop l).take (h-l)).length=h-l:=by grind
   have hp:PR (CK g) w (.sl t' m es) ux:=by simp_all[VR]
   simp only[PR]at hp;obtain⟨_,a',cap,rfl,k2,k3,k4,k5,k6⟩:=hp;have GI:=F8 (w:=w) lP IE Ug xc full dC xa h1 h2 k2 (a:=a');refine⟨_,_,GI,hR,?_,λ_=>rfl⟩;have N2:PR (CK g) w (.sl (if full=true then .full else .no) m ((es.drop l).take (h-l))) (.slice (if (if full=true then h else cap)=l then a' else a'.map (·.add (l*m))) (h-l) ((if full=true then h else cap)-l)):=by
    simp only[PR];refine⟨?_,_,_,by rw[rK],by grind,by grind,?_,k5,?_⟩
    ·grind
    ·grind
    by_cases hlh:h=l
    ·simp_all
    ·rcases k6 with rfl|⟨ad,rfl,k7,k8⟩
     ·grind
     ·refine .inr ⟨ad.add (l*m),?_,by grind[GV],?_⟩
      ·grind
      ·have:=Ea.sub es _ m 0 k8 l (h-l);simp_all[Ea.shift]
   grind[VR]
  grind
 ·split at ha
  ·rename_i hc;obtain⟨rfl,rfl⟩:=hc;simp at ha;obtain⟨rfl,rfl⟩:=ha;have hl:([]:List (List AV)).length=len:=hlen [] (by simp[elems]);simp at hl;subst hl;simp[VR]at hx;subst hx;have GI:=F8 (w:=w) lP IE (a:=none) (len:=0) (cap:=0) Ug xc full dC xa (Nat.le_refl 0) (Nat.le_refl 0) (Nat.le_refl 0);simp_all[VR]
  grind
 grind
end
end Go.Abs
namespace Go.Abs
section
variable {ro QX:Nat->Prop} {w w':World}
def EG.move(h:∀ b,b<w.heap.size->ro b->QX b/\w'.heap[b]?=w.heap[b]?):∀ (cs:List AV) (ad:Addr) (j:Nat),(∀ k,k<cs.length->w'.cell? (ad.add (j+k))=w.cell? (ad.add (j+k)))->EG ro w cs ad j->EG QX w' cs ad j
 |[],_,_,_,_=>by simp[EG]
 | c::cs,ad,j,hs,hu=>by
  simp only[EG]at hu ⊢;obtain⟨⟨u,h1,h2⟩,h3⟩:=hu;refine⟨⟨u,by rw[<- h1];simpa using hs 0 (by simp),PR.mono h c u h2⟩,EG.move h cs ad (j+1) (λk hk=>?_) h3⟩;have:=hs (k+1) (by simpa using hk)
  rwa [show j+(k+1)=j+1+k from by omega]at this
def Ea.sP:∀ (es:List (List AV)) (ad:Addr) (n i:Nat),(∀ (k:Nat) (e:List AV),es[k]?=some e->e.length=n/\EG ro w e ad ((i+k)*n))->Ea ro w es ad n i
 |[],_,_,_,_=>by simp[Ea]
 | e::es,ad,n,i,h=>by
  simp only[Ea];have h0:=h 0 e (by simp);refine⟨h0.1,by simpa using h0.2,Ea.sP es ad n (i+1) λk e' he=>?_⟩;have:=h (k+1) e' (by simpa using he)
  rwa [show i+(k+1)=i+1+k from by omega]at this
end
def over(lo idx:Nat)(cs es:List (List AV)):List (List AV):=es.mapIdx λi e=>if idx<=lo+i then (cs[lo+i-idx]?).getD e else e
def Jy(lo idx:Nat)(cs es:List (List AV)):(over lo idx cs es).length=es.length:=by simp[over]
def AV.Eh(r n idx:Nat)(cs:List (List AV)):AV->AV
 |.sl (.own q lo) m es=>if q=r then (if m=n then .sl (.own q lo) m (over lo idx cs es) else .undef) else .sl (.own q lo) m es
 |.ptr s off=>.ptr s off
 |.ep (.own q l) i d off=>if q=r then (if d.length=n then .ep (.own q l) i (if idx<=i then (cs[i-idx]?).getD d else d) off else .undef) else .ep (.own q l) i d off
 |.mp s=>.mp s
 | x=>x
def St.I1(r n idx:Nat)(cs:List (List AV))(st:St):St:=st.Cz (AV.Eh r n idx cs)
def AV.Si(r idx:Nat)(c:List AV):AV->AV
 |.sl (.own q lo) m es=>if q=r then (if m=c.length then .sl (.own q lo) m (if lo<=idx then es.set (idx-lo) c else es) else .undef) else .sl (.own q lo) m es
 |.ptr s off=>.ptr s off
 |.ep (.own q l) i d off=>if q=r then (if d.length=c.length then .ep (.own q l) i (if i=idx then c else d) off else .undef) else .ep (.own q l) i d off
 |.mp s=>.mp s
 | x=>x
def St.setRow(r idx:Nat)(c:List AV)(st:St):St:=st.Cz (AV.Si r idx c)
def s8(lo idx:Nat)(c:List AV)(es:List (List AV)):over lo idx [c] es=if lo<=idx then es.set (idx-lo) c else es:=by
 refine List.ext_getElem? λi=>?_
 grind[over]
theorem jD(r idx:Nat)(c:List AV):AV.Si r idx c=AV.Eh r c.length idx [c]:=by
 funext x;cases x with
 | sl t n es=>cases t<;>simp[AV.Si,AV.Eh,s8]
 | ep t i d off =>
  cases t<;>grind[AV.Si,AV.Eh]
 |_=>rfl
structure U0(g:Gh)(w:World)(r n idx:Nat)(cs:List (List AV))(cur new:Array Value)(T:TypeId):Prop where
 own:g.own (g.row r)=.row r
 heap:w.heap[g.row r]?=some (.cells cur T (0,0))
 size:new.size=cur.size
 same:∀ p,p<idx*n\/(idx+cs.length)*n<=p->new[p]?=cur[p]?
 cell:Ea (CK g) (w.setRow (g.row r) new) cs ⟨g.row r,idx*n,none⟩ n 0
section
variable {C:Ctx} {A:A0} {N:Nat} {g g':Gh} {st:St} {a:Act} {w w':World} {P:Program}
variable {r n idx:Nat} {c:List (List AV)} {cur new:Array Value} {T:TypeId}
def U0.ro(h:U0 g w r n idx c cur new T):∀ b,b<w.heap.size->CK g b->CK g b/\(w.setRow (g.row r) new).heap[b]?=w.heap[b]?:=λb _ ho =>
 ⟨ho,setRow_other w _ b new (λe=>by subst e;have:=h.own;rw[ho]at this;grind)⟩
theorem U0.other(h:U0 g w r n idx c cur new T){b q:Nat}(hq:q≠r)(ho:g.own b=.row q):(w.setRow (g.row r) new).heap[b]?=w.heap[b]? :=
 setRow_other w _ b new (λe=>by subst e;have:=h.own;grind)
def U0.heap'(h:U0 g w r n idx c cur new T):(w.setRow (g.row r) new).heap[g.row r]?=some (.cells new T (0,0)):=setRow_heap w _ cur new T _ h.heap
def U0.elem(h:U0 g w r n idx c cur new T){i:Nat}{e:List AV}(he:e.length=n)(hi:i<idx\/idx+c.length<=i)(hp:EG (CK g) w e ⟨g.row r,i*n,none⟩ 0) :
 EG (CK g) (w.setRow (g.row r) new) e ⟨g.row r,i*n,none⟩ 0:=by
 refine EG.move h.ro e _ 0 (λk hk=>?_) hp;rw[add_lit,cell_of_row _ _ _ _ _ _ h.heap',cell_of_row _ _ _ _ _ _ h.heap];refine h.same _ ?_;rw[he]at hk;rcases hi with AP|bg
 ·left;have:(i+1)*n<=idx*n:=Nat.mul_le_mul_right _ AP;grind
 ·right;have:(idx+c.length)*n<=i*n:=Nat.mul_le_mul_right _ bg;omega
def sY{lo idx:Nat}{cs es:List (List AV)}{k:Nat}{e:List AV}(h:(over lo idx cs es)[k]?=some e) :
 (idx<=lo+k/\lo+k<idx+cs.length/\cs[lo+k-idx]?=some e)\/(es[k]?=some e/\(lo+k<idx\/idx+cs.length<=lo+k)):=by
 simp only[over,List.getElem?_mapIdx]at h;grind
def U0.sl(h:U0 g w r n idx c cur new T)(q lo m:Nat)(es:List (List AV))(u:Value)(hu:Dr g w q lo m es u):VR g (w.setRow (g.row r) new) (AV.Eh r n idx c (.sl (.own q lo) m es)) u:=by
 simp[AV.Eh]
 by_cases hq:q=r
 ·subst hq;simp;split
  ·rename_i hm;subst hm;simp only[VR,Dr]at hu ⊢;refine⟨hu.1,?_⟩;rcases hu.2 with ⟨rfl,rfl⟩|⟨h0,rfl,iM⟩|⟨cap,nh,T',h1,h2,h3,h5,h6,h7,h8⟩
   ·simp_all[over]
   ·simp_all[over]
   ·have hh:=h.heap;rw[h6]at hh;injection hh with hh
    injection hh with oR hh2
    subst oR;have hlen:=Jy lo idx c es;refine .inr (.inr ⟨cap,new,T,by grind,by omega,h3,h5,h.heap',by rw[h.size];omega,?_⟩);refine Ea.sP _ _ _ 0 λk e he=>?_
    rcases sY he with ⟨hle,AP,he⟩|⟨he,CZ⟩
    ·obtain⟨e1,e2⟩:=Ea.at_ c _ _ 0 h.cell _ e he;refine⟨e1,?_⟩;obtain⟨us,k1,k2⟩:=EG.list _ _ _ e2;refine EG.FO _ us _ _ k1 λj v hv=>?_
     have:=k2 j v hv;rw[add_lit]at this ⊢;rw[show lo*m+((0+k)*m+j)=idx*m+((0+(lo+k-idx))*m+j) from by
      have e1:lo*m+(0+k)*m=(lo+(0+k))*m:=(Nat.add_mul _ _ _).symm;have e2:idx*m+(0+(lo+k-idx))*m=(idx+(0+(lo+k-idx)))*m:=(Nat.add_mul _ _ _).symm;grind]
     omega
    ·obtain⟨e1,e2⟩:=Ea.at_ es _ _ 0 h8 k e he;refine⟨e1,?_⟩;have e3:=EG.shift e ⟨g.row q,lo*m,none⟩ ((0+k)*m) 0 (by simpa using e2);rw[add_lit,<- Nat.add_mul,show lo+(0+k)=lo+k from by omega]at e3;have e4:=h.elem (i:=lo+k) e1 CZ e3;grind[EG.list,EG.FO,add_lit]
  ·simp[VR]
 ·simp[hq];exact hu.map h.ro rfl λ_ ho=>⟨ho,h.other hq ho⟩
def U0.ep(h:U0 g w r n idx c cur new T)(q l i:Nat)(d:List AV)(off:Nat)(u:Value)(hu:Ix g w (.own q l) i d off u):VR g (w.setRow (g.row r) new) (AV.Eh r n idx c (.ep (.own q l) i d off)) u:=by
 simp[AV.Eh]
 by_cases hq:q=r
 ·subst hq;simp;split
  ·rename_i hd;subst hd;simp only[VR,Ix]at hu ⊢;obtain⟨nh,T',h1,h2,h3,h4,h5⟩:=hu;have hh:=h.heap;rw[h3]at hh;injection hh with hh
   injection hh with oR hh2
   subst oR;obtain⟨e,he⟩:∃ e,e=(if idx<=i then (c[i-idx]?).getD d else d):=⟨_,rfl⟩;have Lp:(idx<=i/\c[i-idx]?=some e)\/(e=d/\(i<idx\/idx+c.length<=i)):=by grind
   rw[<- he];rcases Lp with ⟨hle,hc⟩|⟨rfl,hi⟩
   ·obtain⟨e1,e2⟩:=Ea.at_ c _ _ 0 h.cell _ e hc;refine⟨new,T,by grind,h2,h.heap',by rw[e1,h.size];omega,?_⟩;rw[e1];obtain⟨us,k1,k2⟩:=EG.list _ _ _ e2;refine EG.FO _ us _ _ k1 λj v hv=>?_
    have:=k2 j v hv;rw[add_lit]at this ⊢;have e3:idx*d.length+(0+(i-idx))*d.length=i*d.length:=by rw[<- Nat.add_mul];grind
    grind
   ·exact⟨new,T,h1,h2,h.heap',by rw[h.size];omega,h.elem rfl hi h5⟩
  ·simp[VR]
 ·simp[hq];exact hu.map h.ro rfl λ_ ho=>⟨ho,h.other hq ho⟩
theorem U0.VR(h:U0 g w r n idx c cur new T):∀ (x:AV) (u:Value),VR g w x u->Abs.VR g (w.setRow (g.row r) new) (x.Cz (AV.Eh r n idx c)) u :=
 VR.Cz h.ro h.sl (λ_ _ _ hu=>by grind[AV.Eh,Abs.VR]) h.ep (λ_ _ hu=>by grind[AV.Eh,Abs.VR])
theorem U0.Bf(h:U0 g w r n idx c cur new T):∀ (xs:List AV) (us:List Value),Bf g w xs us->Abs.Bf g (w.setRow (g.row r) new) (F0 (AV.Eh r n idx c) xs) us :=
 Abs.Bf.Cz h.ro h.sl (λ_ _ _ hu=>by grind[AV.Eh,Abs.VR]) h.ep (λ_ _ hu=>by grind[AV.Eh,Abs.VR])
def R.I1(hR:R C A N g st a w)(h:U0 g w r n idx c cur new T):R C A N g (st.I1 r n idx c) a (w.setRow (g.row r) new):=by
 have hl:Lasts [r] [] g w g (w.setRow (g.row r) new):=⟨λb hb ho=>⟨ho,(h.ro b hb ho).2⟩,λb q hb hq ho=>⟨ho,h.other (by grind) ho⟩,λ_ _=>rfl,λ_ _=>rfl⟩;refine hR.Cz h.VR h.Bf (λs hs=>⟨rfl,hs,setRow_other w _ _ new (λe=>by have:=h.own;grind)⟩) ?_;exact hR.fr.step hl rfl ⟨rfl,by simp⟩ rfl (by simp) (λb _ ho=>⟨ho,setRow_other w _ b new (λe=>by subst e;have:=h.own;grind)⟩) (λ_ _ he=>by grind)
def R.setRow{c:List AV}(hR:R C A N g st a w)(h:U0 g w r c.length idx [c] cur new T):R C A N g (st.setRow r idx c) a (w.setRow (g.row r) new):=by
 unfold St.setRow;rw[jD];exact hR.I1 h
def U0.eP(ho:g.own (g.row r)=.row r)(hh:w.heap[g.row r]?=some (.cells cur T (0,0))){us:List Value}(hl:∀ e∈c,e.length=n)(hu:us.length=c.length*n)(Md:idx*n+us.length<=cur.size)
 (hp:CR (CK g) w c.flatten us):U0 g w r n idx c cur (cur.toList.take (idx*n)++us++cur.toList.drop (idx*n+us.length)).toArray T:=by
 generalize UP:(cur.toList.take (idx*n)++us++cur.toList.drop (idx*n+us.length)).toArray=new;have RN:cur.toList.length=cur.size:=by simp
 have Hb:new.size=cur.size:=by grind
 refine⟨ho,hh,Hb,λp gq=>?_,?_⟩
 ·rw[<- UP,List.getElem?_toArray,<- Array.getElem?_toList];rcases gq with h|h
  ·grind
  ·rw[Nat.add_mul,<- hu]at h;grind
 ·refine Ea.FO c us _ _ 0 hl (CR.mono (w:=w) (λb hb y7=>⟨y7,setRow_other w _ b new (λe=>by grind[RV])⟩) hp) λj v hj=>?_
  simp[add_lit];rw[cell_of_row _ _ _ _ _ _ (setRow_heap w _ cur new T _ hh)];grind
end
section
variable {C:Ctx} {A:A0} {N:Nat} {g g':Gh} {st:St} {a:Act} {w w':World} {P:Program}
variable {r idx:Nat} {c:List AV} {cur new:Array Value} {T:TypeId}
def TB(n:Nat)(st:St)(p x:AV):Option St :=
 match p with
 |.ptr s off=>match lk s st.Aj with
  |some cs=>if DD x.cells=true/\x.cells.length=n/\off+n<=cs.length then some ⟨st.tmps,H3 s (cut cs off x.cells) st.Aj⟩ else none
  |none=>none
 |.ep (.own r _) i cells off=>match P9 x.cells with
  |some ps=>if DD x.cells=true/\ps.length=n/\x.cells.length=n/\off+n<=cells.length/\r∉rowsOf x.cells then some ((st.freeze (rowsOf x.cells)).setRow r i (cut cells off ps)) else none
  |none=>none
 |_=>none
def fL(hR:R C A N g st a w){t n:Nat}(h2:Cn P t=some n){p x:AV}{up ux:Value}(hp:VR g w p up)(hx:VR g w x ux){st':St}(hs:TB n st p x=some st') :
 ∃ w' g',(Instr.storeAt t up ux).run P w=.ok () w'/\R C A N g' st' a w':=by
 unfold TB at hs;split at hs
 ·rename_i s off;split at hs
  ·rename_i cs bc;split at hs
   ·rename_i hc;simp at hs;subst hs;simp[VR]at hp;obtain⟨lL,rfl⟩:=hp;obtain⟨w',h1,h2⟩:=hR.tN h2 lL bc hx hc.1 hc.2.1 hc.2.2;grind
   grind
  grind
 ·rename_i r l i cells off;split at hs
  ·rename_i ps iL;split at hs
   ·rename_i hc;obtain⟨CC,Sv,hxl,hle,hrn⟩:=hc;simp at hs;subst hs;have hxc:=VR.cells hx CC;have WC:=hR.freeze (rowsOf x.cells);have Vq:=Sa (S:=rowsOf x.cells) hxc iL (λr hr=>hr) CC;have gq:=VR.freeze (S:=rowsOf x.cells) _ _ hp;simp only[AV.freeze,AV.Cz,AV.C7,hrn,if_false,VR,Ix]at gq;obtain⟨cur,T,rfl,k2,k3,k4,k5⟩:=gq;have pJ:ux.cells.size=n:=by rw[<- hxl,Bf.length hxc];simp
    have AjF:cells.length*i+cells.length<=cur.size:=by grind
    have xm:(Gh.freeze (rowsOf x.cells) g).row r=g.row r:=rfl;rw[xm]at k2 k3 k5;have GI:=Sg (P:=P) (w:=w) (o:=i*cells.length+off) h2 pJ k3 (by grind) (OY CC hxc);generalize UP:(cur.toList.take (i*cells.length+off)++ux.cells.toList++cur.toList.drop (i*cells.length+off+n)).toArray=new at GI;have yR:(cut cells off ps).length=cells.length:=by grind[cut]
    have S5:∀ p,new[p]?=if p<i*cells.length+off then cur[p]? else if p<i*cells.length+off+n then ux.cells[p-(i*cells.length+off)]? else cur[p]?:=by
     intro p;have hmul:i*cells.length+cells.length<=cur.size:=by grind
     rw[<- UP];simp only[List.getElem?_toArray];rw[List.append_assoc,List.getElem?_append];simp;rw[Nat.min_eq_left (by omega)];split
     ·grind
     ·rename_i JX;rw[List.getElem?_append];simp only[Array.length_toList,pJ]
      by_cases AP:p<i*cells.length+off+n
      ·grind
      ·rw[if_neg (by omega),if_neg AP,List.getElem?_drop];simp;grind
    have GR:U0 (Gh.freeze (rowsOf x.cells) g) w r (cut cells off ps).length i [cut cells off ps] cur new T:=by
     refine⟨k2,k3,?_,?_,?_⟩
     ·grind
     ·intro q hq;simp only[List.length_cons,List.length_nil,yR,Nat.add_mul]at hq;grind
     ·have Vr:∀ b,b<w.heap.size->CK (Gh.freeze (rowsOf x.cells) g) b->CK (Gh.freeze (rowsOf x.cells) g) b/\(w.setRow (g.row r) new).heap[b]?=w.heap[b]?:=λb _ ho =>
       ⟨ho,setRow_other w _ b new (λe=>by rw[e]at ho;rw[ho]at k2;grind)⟩
      simp[Ea];rw[yR,xm];obtain⟨us,m1,m2⟩:=EG.list _ _ _ k5;have Y6:us.length=cells.length:=(CR.length m1).symm;refine EG.FO _ (us.take off++ux.cells.toList++us.drop (off+n)) _ 0 ?_ ?_
      ·unfold cut;rw[Sv];grind[CR.append,CR.mono,CR.take,CR.drop]
      ·intro j v hv;rw[add_lit,cell_of_row _ _ _ _ _ _ (setRow_heap w _ cur new T _ k3),S5];rw[List.append_assoc,List.getElem?_append]at hv;simp[Y6]at hv;rw[Nat.min_eq_left (by omega)]at hv;have Ue:∀ j v,us[j]?=some v->cur[i*cells.length+j]?=some v:=λj v hv=>by grind[add_lit,cell_of_row]
       split at hv
       ·grind
       ·rename_i JX;rw[List.getElem?_append]at hv;simp only[Array.length_toList,pJ]at hv;split at hv
        ·rename_i AP;rw[if_neg (by omega),if_pos (by omega)];rw[show i*cells.length+(0+j)-(i*cells.length+off)=j-off from by omega];grind
        ·rename_i AeF;rw[List.getElem?_drop]at hv;rw[if_neg (by omega),if_neg (by omega)];have:=Ue _ v hv;rw[show i*cells.length+(0+j)=i*cells.length+(off+n+(j-off-n)) from by omega];omega
    exact⟨_,_,by grind[Instr.storeAt,Instr.sureAddr],WC.setRow GR⟩
   grind
  grind
 grind
end
end Go.Abs
