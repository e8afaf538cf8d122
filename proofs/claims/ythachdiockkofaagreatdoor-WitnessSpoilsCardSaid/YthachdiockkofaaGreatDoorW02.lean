/- part 2 of the proof -/
import Derived.Test.YthachdiockkofaaGreatDoorW01
set_option linter.all false
namespace Go.Abs
def LP:AV→Option Nat
 |.v (.int _ i)=>if 0≤i then some i.toNat else none
 |_=>none
def H6(n:Nat)(full:Bool)(l h:Nat)(st:St):AV→Option (AV × St)
 |.sl (.own r lo) m es=>if m=n∧l≤h∧h≤es.length then
  if full then (if lo=0 then some (.sl .full n ((es.drop l).take (h-l)),st.freeze [r]) else none)
  else some (.sl (.own r (lo+l)) n ((es.drop l).take (h-l)),st)
  else none
 |.sl t m es=>if m=n∧l≤h∧h≤es.length then some (.sl (if full then .full else .no) n ((es.drop l).take (h-l)),st) else none
 |.v (.slice none 0 0)=>if l=0∧h=0 then some (.v (.slice none 0 0),st) else none
 |_=>none
section
variable {C:Ctx} {A:A0} {N:Nat} {g g':Gh} {st:St} {a:Act} {w w':World} {P:Program}
theorem PRe.sub{ro:Nat→Prop}:∀ (es:List (List AV)) (ad:Addr) (n i:Nat),PRe ro w es ad n i→∀ l k:Nat,PRe ro w ((es.drop l).take k) ad n (i+l)
 |[],_,_,_,_,l,k=>by simp[PRe]
 | e::es,ad,n,i,h,0,0=>by simp[PRe]
 | e::es,ad,n,i,h,0,k+1=>by
  simp only[PRe]at h;simp only[List.drop_zero,List.take_succ_cons,PRe];exact⟨h.1,h.2.1,by simpa using PRe.sub es ad n (i+1) h.2.2 0 k⟩
 | e::es,ad,n,i,h,l+1,k=>by
  simp only[PRe]at h;have:=PRe.sub es ad n (i+1) h.2.2 l k;rw[show i+1+l=i+(l+1) from by omega]at this;simpa using this
theorem PRe.shift{ro:Nat→Prop}:∀ (es:List (List AV)) (ad:Addr) (n l i:Nat),PRe ro w es ad n (l+i)→PRe ro w es (ad.add (l*n)) n i
 |[],_,_,_,_,_=>by simp[PRe]
 | e::es,ad,n,l,i,h=>by
  simp only[PRe]at h ⊢;exact⟨h.1,PRc.shift e ad (l*n) (i*n) (by rw[← Nat.add_mul];exact h.2.1),PRe.shift es ad n l (i+1) (by rw[← Nat.add_assoc];exact h.2.2)⟩
theorem EH{t e:TypeId}{size:Nat}(ht:P.underlying t=some (.slice e))(hs:BJ P e=some size){a:Option Addr}{len cap l h:Nat}{lo hi mx:Option Value}{kl kh km:IntKind}
 (hlo:lo=none∧l=0∨lo=some (.int kl l)) (hhi:hi=none∧h=len∨hi=some (.int kh h)) (full:Bool) (hmx:mx=if full then some (.int km h) else none) (hfh:full=true→hi=some (.int kh h))
 (h1:l≤h) (h2:h≤len) (h3:len≤cap) :
 (Instr.slice t (.slice a len cap) lo hi mx).run P w=.ok (.slice (if (if full then h else cap)=l then a else a.map (·.add (l*size))) (h-l) ((if full then h else cap)-l)) w:=by
 have b1:∀ (k:IntKind) (c:BoundsCode),(Instr.sliceBound (.int k h) cap c).run P w=.ok h w:=fun k c=>by
  have:=run_sliceBound (P:=P) (w:=w) k h cap c (by omega) (by omega);simpa using this
 have b2:∀ (k:IntKind) (c:BoundsCode),(Instr.sliceBound (.int k h) h c).run P w=.ok h w:=fun k c=>by
  have:=run_sliceBound (P:=P) (w:=w) k h h c (by omega) (by omega);simpa using this
 have b3:∀ (k:IntKind) (c:BoundsCode),(Instr.sliceBound (.int k l) h c).run P w=.ok l w:=fun k c=>by
  have:=run_sliceBound (P:=P) (w:=w) k l h c (by omega) (by omega);simpa using this
 have b4:∀ (k:IntKind) (c:BoundsCode),l≤len→(Instr.sliceBound (.int k l) len c).run P w=.ok l w:=fun k c hh=>by
  have:=run_sliceBound (P:=P) (w:=w) k l len c (by omega) (by omega);simpa using this
 cases full with
 | true =>
  have hh:=hfh rfl;subst hh;simp only[if_true]at hmx;subst hmx;rcases hlo with ⟨rfl,rfl⟩|rfl
  ·simp[Instr.slice,run_underlying ht,Instr.sliceBounds,b1,b2,run_sizeOf hs]
  ·simp[Instr.slice,run_underlying ht,Instr.sliceBounds,b1,b2,b3,run_sizeOf hs]
 | false =>
  simp only[Bool.false_eq_true,if_false]at hmx;subst hmx;rcases hlo with ⟨rfl,rfl⟩|rfl<;>rcases hhi with ⟨rfl,rfl⟩|rfl
  ·simp[Instr.slice,run_underlying ht,Instr.sliceBounds,run_sizeOf hs]
  ·simp[Instr.slice,run_underlying ht,Instr.sliceBounds,b1,run_sizeOf hs]
  ·simp[Instr.slice,run_underlying ht,Instr.sliceBounds,b4 _ _ h1,run_sizeOf hs]
  ·simp[Instr.slice,run_underlying ht,Instr.sliceBounds,b1,b3,run_sizeOf hs]
theorem K8(hR:R C A N g st a w){t e:TypeId}{n:Nat}(ht:Au P t=some (e,n)){x z:AV}{ux:Value}(hx:VR g w x ux){l h len:Nat}{lo hi mx:Option Value}{kl kh km:IntKind}{full:Bool}
 (hlen:∀ es,elems n x=some es→es.length=len)
 (hlo:lo=none∧l=0∨lo=some (.int kl l)) (hhi:hi=none∧h=len∨hi=some (.int kh h)) (hmx:mx=if full then some (.int km h) else none) (hfh:full=true→hi=some (.int kh h)) {st':St}
 (ha:H6 n full l h st x=some (z,st')):∃ u g',(Instr.slice t ux lo hi mx).run P w=.ok u w∧R C A N g' st' a w∧VR g' w z u∧(((∀ r lo m es,x≠.sl (.own r lo) m es)∨full=false)→g'=g):=by
 have hts:P.underlying t=some (.slice e)∧BJ P e=some n:=by
  unfold Au at ht;split at ht
  ·rename_i e' he;obtain⟨n',hn',hh⟩:=Option.map_eq_some_iff.1 ht;simp only[Prod.mk.injEq]at hh;obtain⟨rfl,rfl⟩:=hh;exact⟨he,hn'⟩
  ·cases ht
 obtain⟨ht1,ht2⟩:=hts;unfold H6 at ha;split at ha
 ·rename_i r lo' m es;split at ha
  ·rename_i hc;obtain⟨rfl,h1,h2⟩:=hc;have hl:es.length=len:=hlen es (by simp[elems]);subst hl;simp only[VR,Cq]at hx;obtain⟨hn,hx⟩:=hx;have hlen':((es.drop l).take (h-l)).length=h-l:=by simp;omega
   split at ha
   ·rename_i hf;subst hf;split at ha
    ·rename_i h0;subst h0;simp only[Option.some.injEq,Prod.mk.injEq]at ha;obtain⟨rfl,rfl⟩:=ha;rcases hx with ⟨rfl,rfl⟩|⟨h0,_⟩|⟨cap,cur,T,rfl,k2,k3,k5,k6,k7,k8⟩
     ·simp only[List.length_nil]at h2;have h0:h=0:=by omega
      subst h0;have hl0:l=0:=by omega
      subst hl0;have hrun:=EH (w:=w) ht1 ht2 (a:=none) (len:=0) (cap:=0) hlo hhi true hmx hfh (Nat.le_refl 0) (Nat.le_refl 0) (Nat.le_refl 0);refine⟨_,_,hrun,hR.freeze [r],?_,fun h=>by rcases h with h|h;exact absurd rfl (h _ _ _ _);cases h⟩;simp only[VR,PR];exact⟨(fun _ _ h=>by cases h),none,0,by simp,by simp,by simp[maxLen],(fun _=>by simp),hn,.inl (by simp)⟩
     ·omega
     ·have hrun:=EH (w:=w) ht1 ht2 hlo hhi true hmx hfh h1 h2 k2 (a:=some ⟨g.row r,0*m,none⟩);refine⟨_,_,hrun,hR.freeze [r],?_,fun h=>by rcases h with h|h;exact absurd rfl (h _ _ _ _);cases h⟩;simp only[VR,PR,if_true];refine⟨(fun _ _ h=>by cases h),_,_,by rw[hlen'],by omega,by omega,(fun _=>by omega),hn,?_⟩
      by_cases hlh:h=l
      ·exact .inl (by rw[hlh];simp)
      ·refine .inr ⟨_,by rw[if_neg hlh];rfl,(by show (Gh.freeze [r] g).own ((⟨g.row r,0*m,none⟩:Addr).add (l*m)).block=.ro;rw[EA];exact Mg _ r k5 (by simp)),?_⟩;have:=PRe.sub es _ m 0 (PRe.Ca (Fb (S:=[r])) es _ m 0 rfl k8) l (h-l);rw[Nat.zero_add]at this;exact PRe.shift _ _ m l 0 (by simpa using this)
    ·cases ha
   ·rename_i hf;have hf':full=false:=by simpa using hf
    subst hf';simp only[Option.some.injEq,Prod.mk.injEq]at ha;obtain⟨rfl,rfl⟩:=ha;rcases hx with ⟨rfl,rfl⟩|⟨h0,rfl,a',cap,rfl,hcap⟩|⟨cap,cur,T,rfl,k2,k3,k5,k6,k7,k8⟩
    ·simp only[List.length_nil]at h2;have h0:h=0:=by omega
     subst h0;have hl0:l=0:=by omega
     subst hl0;have hrun:=EH (w:=w) ht1 ht2 (a:=none) (len:=0) (cap:=0) hlo hhi false hmx hfh (Nat.le_refl 0) (Nat.le_refl 0) (Nat.le_refl 0);refine⟨_,_,hrun,hR,?_,fun _=>rfl⟩;simp only[VR,Cq];exact⟨hn,.inl ⟨by simp,by simp⟩⟩
    ·simp only[List.length_nil]at h2;have h0':h=0:=by omega
     subst h0';have hl0:l=0:=by omega
     subst hl0;have hrun:=EH (w:=w) ht1 ht2 (a:=a') (len:=0) (cap:=cap) hlo hhi false hmx hfh (Nat.le_refl 0) (Nat.le_refl 0) (Nat.zero_le _);refine⟨_,_,hrun,hR,?_,fun _=>rfl⟩;simp only[VR,Cq];exact⟨hn,.inr (.inl ⟨by omega,by simp,_,_,rfl,by simp;omega⟩)⟩
    ·have hrun:=EH (w:=w) ht1 ht2 hlo hhi false hmx hfh h1 h2 k2 (a:=some ⟨g.row r,lo'*m,none⟩);refine⟨_,_,hrun,hR,?_,fun _=>rfl⟩;simp only[VR,Cq];refine⟨hn,?_⟩;have hsub:=PRe.sub es _ m 0 k8 l (h-l);rw[Nat.zero_add]at hsub;have hsh:=PRe.shift _ _ m l 0 (by simpa using hsub);rw[add_lit,← Nat.add_mul]at hsh
     by_cases hcl:cap=l
     ·have hl0:h=l:=by omega
      by_cases hz:lo'+l=0
      ·have e1:lo'=0:=by omega
       have e2:l=0:=by omega
       subst e1;subst e2;refine .inr (.inr ⟨cap-0,cur,T,?_,by rw[hlen'];omega,by omega,k5,k6,by simpa using k7,hsh⟩);simp only[Bool.false_eq_true,if_false,hcl,if_true];rw[hlen']
      ·refine .inr (.inl ⟨by omega,by rw[hl0];simp,_,_,by rw[hl0,Nat.sub_self],by simp;omega⟩)
     ·refine .inr (.inr ⟨cap-l,cur,T,?_,by rw[hlen'];omega,by omega,k5,k6,by rw[show lo'+l+(cap-l)=lo'+cap from by omega];exact k7,hsh⟩);rw[hlen'];simp[hcl,add_lit,Nat.add_mul]
  ·cases ha
 ·rename_i t' m es hno;split at ha
  ·rename_i hc;obtain⟨rfl,h1,h2⟩:=hc;simp only[Option.some.injEq,Prod.mk.injEq]at ha;obtain⟨rfl,rfl⟩:=ha;have hl:es.length=len:=hlen es (by simp[elems]);subst hl;have hlen':((es.drop l).take (h-l)).length=h-l:=by simp;omega
   have hp:PR (BM g) w (.sl t' m es) ux:=by
    cases t' with
    | own r lo=>exact absurd rfl (hno r lo)
    | no=>simpa [VR]using hx
    | full=>simpa [VR]using hx
   simp only[PR]at hp;obtain⟨_,a',cap,rfl,k2,k3,k4,k5,k6⟩:=hp;have hrun:=EH (w:=w) ht1 ht2 hlo hhi full hmx hfh h1 h2 k2 (a:=a');refine⟨_,_,hrun,hR,?_,fun _=>rfl⟩;have hres:PR (BM g) w (.sl (if full=true then .full else .no) m ((es.drop l).take (h-l))) (.slice (if (if full=true then h else cap)=l then a' else a'.map (·.add (l*m))) (h-l) ((if full=true then h else cap)-l)):=by
    simp only[PR];refine⟨?_,_,_,by rw[hlen'],by split<;>omega,by split<;>omega,?_,k5,?_⟩
    ·intro r lo;cases full<;>simp
    ·intro hf;cases full
     ·simp at hf
     ·simp;omega
    by_cases hlh:h=l
    ·exact .inl (by rw[hlh];simp)
    ·rcases k6 with rfl|⟨ad,rfl,k7,k8⟩
     ·exact .inl (by simp)
     ·refine .inr ⟨ad.add (l*m),?_,by rw[EA];exact k7,?_⟩
      ·rw[if_neg (by split<;>omega)];rfl
      ·have:=PRe.sub es _ m 0 k8 l (h-l);rw[Nat.zero_add]at this;exact PRe.shift _ _ m l 0 (by simpa using this)
   cases full with
   | true=>simpa [VR]using hres
   | false=>simpa [VR]using hres
  ·cases ha
 ·split at ha
  ·rename_i hc;obtain⟨rfl,rfl⟩:=hc;simp only[Option.some.injEq,Prod.mk.injEq]at ha;obtain⟨rfl,rfl⟩:=ha;have hl:([]:List (List AV)).length=len:=hlen [] (by simp[elems]);simp at hl;subst hl;simp only[VR]at hx;subst hx;have hrun:=EH (w:=w) ht1 ht2 (a:=none) (len:=0) (cap:=0) hlo hhi full hmx hfh (Nat.le_refl 0) (Nat.le_refl 0) (Nat.le_refl 0);refine⟨_,_,hrun,hR,?_,fun _=>rfl⟩;simp[VR]
  ·cases ha
 ·cases ha
end
end Go.Abs
namespace Go.Abs
mutual
def AV.setRow(r idx:Nat)(c:List AV):AV→AV
 |.undef=>.undef
 |.v x=>.v x
 |.agg cs=>.agg (Ga r idx c cs)
 |.tup cs=>.tup (Ga r idx c cs)
 |.sl (.own q lo) m es=>if q=r then (if m=c.length then .sl (.own q lo) m (if lo≤idx then es.set (idx-lo) c else es) else .undef) else .sl (.own q lo) m es
 |.sl .no n es=>.sl .no n es
 |.sl .full n es=>.sl .full n es
 |.ptr s off=>.ptr s off
 |.ep (.own q l) i d off=>if q=r then (if d.length=c.length then .ep (.own q l) i (if i=idx then c else d) off else .undef) else .ep (.own q l) i d off
 |.ep .no i cells off=>.ep .no i cells off
 |.ep .full i cells off=>.ep .full i cells off
 |.fn f AU=>.fn f (Ga r idx c AU)
 |.mv f AU=>.mv f (Ga r idx c AU)
 |.mp o=>.mp o
 |.ifc t x=>.ifc t (x.setRow r idx c)
 |.hnd k q i j off m bss=>if q=r then .undef else .hnd k q i j off m bss
 |.mem b xs=>.mem b (Ga r idx c xs)
def Ga(r idx:Nat)(c:List AV):List AV→List AV
 |[]=>[]
 | x::xs=>x.setRow r idx c::Ga r idx c xs
end
def St.setRow(r idx:Nat)(c:List AV)(st:St):St:=⟨st.tmps.map (fun p=>(p.1,p.2.setRow r idx c)),st.Al.map (fun p=>(p.1,Ga r idx c p.2))⟩
section
variable {ro ro':Nat→Prop} {w w':World}
theorem PRc.move(h:∀ b,b<w.heap.size→ro b→ro' b∧w'.heap[b]?=w.heap[b]?):∀ (cs:List AV) (ad:Addr) (j:Nat),(∀ k,k<cs.length→w'.cell? (ad.add (j+k))=w.cell? (ad.add (j+k)))→PRc ro w cs ad j→PRc ro' w' cs ad j
 |[],_,_,_,_=>by simp[PRc]
 | c::cs,ad,j,hs,hu=>by
  simp only[PRc]at hu ⊢;obtain⟨⟨u,h1,h2⟩,h3⟩:=hu;refine⟨⟨u,by rw[← h1];simpa using hs 0 (by simp),PR.mono h c u h2⟩,PRc.move h cs ad (j+1) (fun k hk=>?_) h3⟩;have:=hs (k+1) (by simpa using hk)
  rwa [show j+(k+1)=j+1+k from by omega]at this
theorem PRe.UU:∀ (es:List (List AV)) (ad:Addr) (n i:Nat),(∀ (k:Nat) (e:List AV),es[k]?=some e→e.length=n∧PRc ro w e ad ((i+k)*n))→PRe ro w es ad n i
 |[],_,_,_,_=>by simp[PRe]
 | e::es,ad,n,i,h=>by
  simp only[PRe];have h0:=h 0 e (by simp);refine⟨h0.1,by simpa using h0.2,PRe.UU es ad n (i+1) fun k e' he=>?_⟩;have:=h (k+1) e' (by simpa using he)
  rwa [show i+(k+1)=i+1+k from by omega]at this
end
structure Stored(g:Gh)(w:World)(r idx:Nat)(c:List AV)(cur new:Array Value)(T:TypeId):Prop where
 own:g.own (g.row r)=.row r
 heap:w.heap[g.row r]?=some (.cells cur T (0,0))
 size:new.size=cur.size
 same:∀ p,p<idx*c.length∨(idx+1)*c.length≤p→new[p]?=cur[p]?
 cell:PRc (BM g) (w.setRow (g.row r) new) c ⟨g.row r,idx*c.length,none⟩ 0
section
variable {C:Ctx} {A:A0} {N:Nat} {g g':Gh} {st:St} {a:Act} {w w':World} {P:Program}
variable {r idx:Nat} {c:List AV} {cur new:Array Value} {T:TypeId}
theorem Stored.ro(h:Stored g w r idx c cur new T):∀ b,b<w.heap.size→BM g b→BM g b∧(w.setRow (g.row r) new).heap[b]?=w.heap[b]?:=fun b _ ho =>
 ⟨ho,setRow_other w _ b new (fun e=>by subst e;have:=h.own;rw[ho]at this;cases this)⟩
theorem Stored.other(h:Stored g w r idx c cur new T){b q:Nat}(hq:q≠r)(ho:g.own b=.row q):(w.setRow (g.row r) new).heap[b]?=w.heap[b]? :=
 setRow_other w _ b new (fun e=>by subst e;have:=h.own;rw[ho]at this;injection this with this;exact hq this)
theorem Stored.heap'(h:Stored g w r idx c cur new T):(w.setRow (g.row r) new).heap[g.row r]?=some (.cells new T (0,0)):=setRow_heap w _ cur new T _ h.heap
theorem Stored.elem(h:Stored g w r idx c cur new T){i n:Nat}{e:List AV}(hn:n=c.length)(he:e.length=n)(hi:i≠idx)(hp:PRc (BM g) w e ⟨g.row r,i*n,none⟩ 0) :
 PRc (BM g) (w.setRow (g.row r) new) e ⟨g.row r,i*n,none⟩ 0:=by
 refine PRc.move h.ro e _ 0 (fun k hk=>?_) hp;rw[add_lit,cell_of_row _ _ _ _ _ _ h.heap',cell_of_row _ _ _ _ _ _ h.heap];refine h.same _ ?_;subst hn;rw[he]at hk;rcases Nat.lt_or_gt_of_ne hi with hlt|hgt
 ·left;have:(i+1)*c.length≤idx*c.length:=Nat.mul_le_mul_right _ hlt;rw[Nat.add_mul]at this;omega
 ·right;have:(idx+1)*c.length≤i*c.length:=Nat.mul_le_mul_right _ hgt;omega
mutual
theorem VR.setRow(h:Stored g w r idx c cur new T):∀ (x:AV) (u:Value),VR g w x u→VR g (w.setRow (g.row r) new) (x.setRow r idx c) u
 |.undef,_,_=>by simp[AV.setRow,VR]
 |.v x,u,hu=>by simpa [AV.setRow,VR]using hu
 |.agg cs,u,hu=>by
  simp only[AV.setRow,VR]at hu ⊢;obtain⟨us,h1,h2⟩:=hu;exact⟨us,h1,VRs.setRow h cs us.toList h2⟩
 |.tup cs,u,hu=>by
  simp only[AV.setRow,VR]at hu ⊢;obtain⟨us,h1,h2⟩:=hu;exact⟨us,h1,VRs.setRow h cs us.toList h2⟩
 |.sl (.own q lo) m es,u,hu=>by
  simp only[AV.setRow]
  by_cases hq:q=r
  ·subst hq;simp only[if_true];split
   ·rename_i hm;subst hm;simp only[VR,Cq]at hu ⊢;refine⟨hu.1,?_⟩;rcases hu.2 with ⟨rfl,rfl⟩|⟨h0,rfl,hu'⟩|⟨cap,cur',T',h1,h2,h3,h5,h6,h7,h8⟩
    ·exact .inl ⟨rfl,by split<;>simp⟩
    ·exact .inr (.inl ⟨h0,by split<;>simp,hu'⟩)
    ·have hh:=h.heap;rw[h6]at hh;injection hh with hh
     injection hh with hh1 hh2
     subst hh1;have hlen:(if lo≤idx then es.set (idx-lo) c else es).length=es.length:=by split<;>simp
     refine .inr (.inr ⟨cap,new,T,by rw[hlen];exact h1,by rw[hlen];exact h2,h3,h5,h.heap',by rw[h.size];exact h7,?_⟩);refine PRe.UU _ _ _ 0 fun k e he=>?_
     have hcase:(lo≤idx∧k=idx-lo∧e=c)∨(es[k]?=some e∧lo+k≠idx):=by
      split at he
      ·rename_i hle;rw[List.getElem?_set]at he;split at he
       ·rename_i hk;split at he
        ·simp at he;exact .inl ⟨hle,hk.symm,he.symm⟩
        ·cases he
       ·rename_i hk;exact .inr ⟨he,by omega⟩
      ·rename_i hle;exact .inr ⟨he,by omega⟩
     rcases hcase with ⟨hle,rfl,rfl⟩|⟨he,hne⟩
     ·refine⟨rfl,?_⟩;have:=h.cell;obtain⟨us,k1,k2⟩:=PRc.list _ _ _ this;refine PRc.C4 _ us _ _ k1 fun j v hv=>?_
      have:=k2 j v hv;rw[add_lit]at this ⊢;rw[show lo*e.length+((0+(idx-lo))*e.length+j)=idx*e.length+(0+j) from by
       rw[← Nat.add_assoc,← Nat.add_mul];rw[show lo+(0+(idx-lo))=idx from by omega];omega]
      exact this
     ·obtain⟨e1,e2⟩:=PRe.at_ es _ _ 0 h8 k e he;refine⟨e1,?_⟩;have e3:=PRc.shift e ⟨g.row q,lo*c.length,none⟩ ((0+k)*c.length) 0 (by simpa using e2);rw[add_lit,← Nat.add_mul,show lo+(0+k)=lo+k from by omega]at e3;have e4:=h.elem (i:=lo+k) rfl e1 hne e3;obtain⟨us,k1,k2⟩:=PRc.list _ _ _ e4;refine PRc.C4 _ us _ _ k1 fun j v hv=>?_
      have:=k2 j v hv;rw[add_lit]at this ⊢;rw[show lo*c.length+((0+k)*c.length+j)=(lo+k)*c.length+(0+j) from by
       rw[← Nat.add_assoc,← Nat.add_mul];simp]
      exact this
   ·simp[VR]
  ·simp only[hq,if_false];simp only[VR,Cq]at hu ⊢;refine⟨hu.1,?_⟩;rcases hu.2 with hu|hu|⟨cap,cur',T',h1,h2,h3,h5,h6,h7,h8⟩
   ·exact .inl hu
   ·exact .inr (.inl hu)
   ·have ho:=h.other hq h5;exact .inr (.inr ⟨cap,cur',T',h1,h2,h3,h5,by rw[ho];exact h6,h7,PRe.Ca h.ro es _ m 0 ho h8⟩)
 |.sl .no n es,u,hu=>by
  simp only[AV.setRow,VR]at hu ⊢;exact PR.mono h.ro _ u hu
 |.sl .full n es,u,hu=>by
  simp only[AV.setRow,VR]at hu ⊢;exact PR.mono h.ro _ u hu
 |.ptr s off,u,hu=>by simpa [AV.setRow,VR]using hu
 |.mp s,u,hu=>by simpa [AV.setRow,VR]using hu
 |.ep (.own q l) i d off,u,hu=>by
  simp only[AV.setRow]
  by_cases hq:q=r
  ·subst hq;simp only[if_true];split
   ·rename_i hd;simp only[VR,Fg]at hu ⊢;obtain⟨cur',T',h1,h2,h3,h4,h5⟩:=hu;have hh:=h.heap;rw[h3]at hh;injection hh with hh
    injection hh with hh1 hh2
    subst hh1;have hlen:(if i=idx then c else d).length=d.length:=by split<;>simp_all
    refine⟨new,T,by rw[hlen];exact h1,h2,h.heap',by rw[hlen,h.size];exact h4,?_⟩;rw[hlen]
    by_cases hi:i=idx
    ·subst hi;simp only[if_true];rw[hd];exact h.cell
    ·simp only[hi,if_false];exact h.elem hd rfl hi h5
   ·simp[VR]
  ·simp only[hq,if_false];simp only[VR,Fg]at hu ⊢;obtain⟨cur',T',h1,h2,h3,h4,h5⟩:=hu;have ho:=h.other hq h2;exact⟨cur',T',h1,h2,by rw[ho];exact h3,h4,PRc.Ca h.ro d _ 0 ho h5⟩
 |.ep .no i cells off,u,hu=>by
  simp only[AV.setRow,VR,Fg]at hu ⊢;obtain⟨ad,h1,h0,h2,h3⟩:=hu;exact⟨ad,h1,h0,h2,PRc.mono h.ro _ ad 0 h2 h3⟩
 |.ep .full i cells off,u,hu=>by
  simp only[AV.setRow,VR,Fg]at hu ⊢;obtain⟨ad,h1,h0,h2,h3⟩:=hu;exact⟨ad,h1,h0,h2,PRc.mono h.ro _ ad 0 h2 h3⟩
 |.fn f AU,u,hu=>by
  simp only[AV.setRow,VR]at hu ⊢;obtain⟨us,h1,h2⟩:=hu;exact⟨us,h1,VRs.setRow h AU us.toList h2⟩
 |.mv f AU,u,hu=>by
  simp only[AV.setRow,VR]at hu ⊢;obtain⟨us,h1,h2⟩:=hu;exact⟨us,h1,VRs.setRow h AU us.toList h2⟩
 |.ifc t x,u,hu=>by
  simp only[AV.setRow,VR]at hu ⊢;obtain⟨y,h1,h2⟩:=hu;exact⟨y,h1,VR.setRow h x y h2⟩
 |.hnd k q i j off m bss,u,hu=>by
  simp only[AV.setRow]
  by_cases hq:q=r
  ·simp[hq,VR]
  ·simp only[hq,if_false];simp only[VR]at hu ⊢;exact hu.map ⟨h.ro,rfl,fun _=>rfl,fun _ ho=>⟨ho,h.other hq ho⟩,fun i _ ho=>⟨ho,setRow_other w _ _ new (fun e=>by have:=h.own;rw[← e,ho]at this;cases this)⟩⟩
 |.mem b xs,u,hu=>by
  simp only[AV.setRow,VR]at hu ⊢;obtain⟨ad,vs,h1,h2,h3,h4⟩:=hu;obtain⟨k1,k2⟩:=h2.move h.ro h1;exact⟨ad,vs,k1,k2,VRs.setRow h xs vs h3,h4⟩
theorem VRs.setRow(h:Stored g w r idx c cur new T):∀ (cs:List AV) (us:List Value),VRs g w cs us→VRs g (w.setRow (g.row r) new) (Ga r idx c cs) us
 |[],[],_=>by simp[Ga,VRs]
 |[],_::_,hu=>by simp[VRs]at hu
 |_::_,[],hu=>by simp[VRs]at hu
 | x::cs,u::us,hu=>by
  simp only[Ga,VRs]at hu ⊢;exact⟨VR.setRow h x u hu.1,VRs.setRow h cs us hu.2⟩
end
theorem R.setRow(hR:R C A N g st a w)(h:Stored g w r idx c cur new T):R C A N g (st.setRow r idx c) a (w.setRow (g.row r) new) where
 size:=hR.size
 defs:=hR.defs
 tm:=fun k x hx=>by
  simp only[St.setRow,KN]at hx;obtain⟨y,hy,rfl⟩:=Option.map_eq_some_iff.1 hx;obtain⟨u,hu,hv⟩:=hR.tm k y hy;exact⟨u,hu,VR.setRow h y u hv⟩
 ob:=fun s cs hs=>by
  simp only[St.setRow,KN]at hs;obtain⟨y,hy,rfl⟩:=Option.map_eq_some_iff.1 hs;have h1:=(hR.ob s y hy).1;exact(hR.ob s y hy).lift rfl h1 (setRow_other w _ _ new (fun e=>by have:=h.own;rw[← e,h1]at this;cases this)) (fun us hu=>VRs.setRow h _ _ hu)
 fr:=by
  have hl:Lasts [r] [] g w g (w.setRow (g.row r) new):=⟨fun b hb ho=>⟨ho,(h.ro b hb ho).2⟩,fun b q hb hq ho=>⟨ho,h.other (by simpa using hq) ho⟩,fun _ _=>rfl,fun _ _=>rfl,fun b q i _ _ ho=>⟨ho,setRow_other w _ b new (fun e=>by subst e;have:=h.own;rw[ho]at this;cases this)⟩,fun _ _ _=>rfl⟩;exact hR.fr.step hl rfl ⟨rfl,by first|exact Nat.le_refl _|exact Nat.le_succ _⟩ rfl (by simp) (fun b _ ho=>⟨ho,setRow_other w _ b new (fun e=>by subst e;have:=h.own;rw[ho]at this;cases this)⟩) (fun _ _ he=>by cases he)
end
theorem PRc.unshift{ro:Nat→Prop}{w:World}{cs:List AV}{b o:Nat}(h:PRc ro w cs ⟨b,o,none⟩ 0):PRc ro w cs ⟨b,0,none⟩ o:=by
 obtain⟨us,k1,k2⟩:=PRc.list cs _ 0 h;refine PRc.C4 cs us _ _ k1 fun j v hv=>?_
 have:=k2 j v hv;rw[add_lit]at this ⊢;rw[show 0+(o+j)=o+(0+j) from by omega];exact this
def Hset(k:HK)(i' j':Nat)(bss:List (List (List AV)))(i j:Nat)(c:List AV):List (List (List AV)):=match k with
 |.dsl=>bss.set i ((bss.getD i []).set j c)
 |.dp=>if i'=i then bss.map (·.set j c) else bss
 |.isl=>if i'=i then bss.map (·.set j c) else bss
 |.iep=>if i'=i∧j'=j then [[c]] else bss
mutual
def AV.Bw(r i j:Nat)(c:List AV):AV→AV
 |.undef=>.undef
 |.v x=>.v x
 |.agg cs=>.agg (F9 r i j c cs)
 |.tup cs=>.tup (F9 r i j c cs)
 |.sl t m es=>.sl t m es
 |.ptr s off=>.ptr s off
 |.ep t k d off=>.ep t k d off
 |.fn f AU=>.fn f (F9 r i j c AU)
 |.mv f AU=>.mv f (F9 r i j c AU)
 |.mp o=>.mp o
 |.ifc t x=>.ifc t (x.Bw r i j c)
 |.hnd k q i' j' off m bss=>if q=r then (if m=c.length then .hnd k q i' j' off m (Hset k i' j' bss i j c) else .undef) else .hnd k q i' j' off m bss
 |.mem b xs=>.mem b (F9 r i j c xs)
def F9(r i j:Nat)(c:List AV):List AV→List AV
 |[]=>[]
 | x::xs=>x.Bw r i j c::F9 r i j c xs
end
def St.Bw(r i j:Nat)(c:List AV)(st:St):St:=⟨st.tmps.map (fun p=>(p.1,p.2.Bw r i j c)),st.Al.map (fun p=>(p.1,F9 r i j c p.2))⟩
structure C1(g:Gh)(w:World)(r i j:Nat)(c:List AV)(cur new:Array Value)(T:TypeId):Prop where
 own:g.own (g.inn r i)=.inn r i
 heap:w.heap[g.inn r i]?=some (.cells cur T (0,0))
 size:new.size=cur.size
 same:∀ p,p<j*c.length∨(j+1)*c.length≤p→new[p]?=cur[p]?
 cell:PRc (BM g) (w.setRow (g.inn r i) new) c ⟨g.inn r i,j*c.length,none⟩ 0
section
variable {C:Ctx} {A:A0} {N:Nat} {g g':Gh} {st:St} {a:Act} {w w':World} {P:Program}
variable {r i j:Nat} {c:List AV} {cur new:Array Value} {T:TypeId}
theorem C1.ne(h:C1 g w r i j c cur new T){b:Nat}(ho:g.own b≠.inn r i):(w.setRow (g.inn r i) new).heap[b]?=w.heap[b]? :=
 setRow_other w _ b new (fun e=>ho (by rw[e];exact h.own))
theorem C1.ro(h:C1 g w r i j c cur new T):∀ b,b<w.heap.size→BM g b→BM g b∧(w.setRow (g.inn r i) new).heap[b]?=w.heap[b]?:=fun b _ ho =>
 ⟨ho,h.ne (by rw[show g.own b=.ro from ho];intro e;cases e)⟩
theorem C1.heap'(h:C1 g w r i j c cur new T):(w.setRow (g.inn r i) new).heap[g.inn r i]?=some (.cells new T (0,0)):=setRow_heap w _ cur new T _ h.heap
theorem C1.elem(h:C1 g w r i j c cur new T){k n:Nat}{e:List AV}(hn:n=c.length)(he:e.length=n)(hk:k≠j)(hp:PRc (BM g) w e ⟨g.inn r i,k*n,none⟩ 0) :
 PRc (BM g) (w.setRow (g.inn r i) new) e ⟨g.inn r i,k*n,none⟩ 0:=by
 refine PRc.move h.ro e _ 0 (fun q hq=>?_) hp;rw[add_lit,cell_of_row _ _ _ _ _ _ h.heap',cell_of_row _ _ _ _ _ _ h.heap];refine h.same _ ?_;subst hn;rw[he]at hq;rcases Nat.lt_or_gt_of_ne hk with hlt|hgt
 ·left;have:(k+1)*c.length≤j*c.length:=Nat.mul_le_mul_right _ hlt;rw[Nat.add_mul]at this;omega
 ·right;have:(j+1)*c.length≤k*c.length:=Nat.mul_le_mul_right _ hgt;omega
theorem C1.inn(h:C1 g w r i j c cur new T){q m:Nat}{b:List (List AV)}{u:Value}(hm:m=c.length)(hu:Fu g w r q m b u):Fu g (w.setRow (g.inn r i) new) r q m (if q=i then b.set j c else b) u:=by
 rcases hu with ⟨rfl,hu⟩|⟨cap,cur',T',h1,h2,h3,h4,h5,h6,h7⟩
 ·exact .inl ⟨by split<;>simp,hu⟩
 ·by_cases hq:q=i
  ·subst hq;simp only[if_true];subst hm;have hh:=h.heap;rw[h5]at hh;injection hh with hh
   injection hh with hh1 hh2
   subst hh1;refine .inr ⟨cap,new,T,by rw[List.length_set];exact h1,by rw[List.length_set];exact h2,h3,h4,h.heap',by rw[h.size];exact h6,?_⟩;refine PRe.UU _ _ _ 0 fun k e he=>?_
   rw[List.getElem?_set]at he;split at he
   ·rename_i hk;split at he
    ·simp at he;subst he;subst hk;refine⟨rfl,?_⟩;have:=PRc.unshift h.cell;simpa using this
    ·cases he
   ·rename_i hk;obtain⟨e1,e2⟩:=PRe.at_ b _ _ 0 h7 k e he;refine⟨e1,?_⟩;have e3:=PRc.shift e ⟨g.inn r q,0,none⟩ ((0+k)*c.length) 0 (by simpa using e2);rw[add_lit,Nat.zero_add,Nat.zero_add]at e3;have e4:=h.elem rfl e1 (Ne.symm hk) e3;have:=PRc.unshift e4;simpa using this
  ·simp only[hq,if_false];have ho:=h.ne (b:=g.inn r q) (by rw[h4];intro e;injection e with _ e;exact hq e);exact .inr ⟨cap,cur',T',h1,h2,h3,h4,by rw[ho];exact h5,h6,PRe.Ca h.ro b _ m 0 ho h7⟩
theorem C1.hnd(h:C1 g w r i j c cur new T){k:HK}{i' j' off m:Nat}{bss:List (List (List AV))}{u:Value}(hm:m=c.length)(hu:LJ g w k r i' j' off m bss u):LJ g (w.setRow (g.inn r i) new) k r i' j' off m (Hset k i' j' bss i j c) u:=by
 obtain⟨h0,hu⟩:=hu;refine⟨h0,?_⟩;cases k with
 | dsl =>
  rcases hu with ⟨h1,rfl⟩|⟨cap,cur',T',h1,h2,h3,h4,h5,h6,h7⟩
  ·exact .inl ⟨h1,by simp[Hset]⟩
  ·have ho:=h.ne (b:=g.row r) (by rw[h4];intro e;cases e);have hl:(Hset .dsl i' j' bss i j c).length=bss.length:=by simp[Hset]
   refine .inr ⟨cap,cur',T',by rw[hl];exact h1,by rw[hl];exact h2,h3,h4,by rw[ho];exact h5,h6,fun q b hq=>?_⟩;simp only[Hset]at hq;rw[List.getElem?_set]at hq;split at hq
   ·rename_i hiq;subst hiq;split at hq
    ·rename_i hlt;simp at hq;subst hq;obtain⟨v,hv,hi⟩:=h7 i bss[i] (List.getElem?_eq_getElem hlt);have:=h.inn hm hi;simp only[if_true]at this;exact⟨v,hv,by simpa [List.getElem?_eq_getElem hlt]using this⟩
    ·cases hq
   ·rename_i hiq;obtain⟨v,hv,hi⟩:=h7 q b hq;have:=h.inn hm hi;rw[if_neg (Ne.symm hiq)]at this;exact⟨v,hv,this⟩
 | dp =>
  obtain⟨b,rfl,cur',T',v,h1,h4,h5,h6,h7⟩:=hu;have ho:=h.ne (b:=g.row r) (by rw[h4];intro e;cases e);refine⟨if i'=i then b.set j c else b,by simp only[Hset];split<;>simp,cur',T',v,h1,h4,by rw[ho];exact h5,h6,h.inn hm h7⟩
 | isl =>
  obtain⟨b,rfl,hi⟩:=hu;exact⟨if i'=i then b.set j c else b,by simp only[Hset];split<;>simp,h.inn hm hi⟩
 | iep =>
  obtain⟨d,rfl,hl,cur',T',h1,h4,h5,h6,h7⟩:=hu
  by_cases hi:i'=i
  ·subst hi;have hh:=h.heap;rw[h5]at hh;injection hh with hh
   injection hh with hh1 hh2
   subst hh1
   by_cases hj:j'=j
   ·subst hj;refine⟨c,by simp[Hset],hm.symm,new,T,h1,h4,h.heap',by rw[h.size];exact h6,?_⟩;rw[hm];exact h.cell
   ·refine⟨d,by simp[Hset,hj],hl,new,T,h1,h4,h.heap',by rw[h.size];exact h6,?_⟩;exact h.elem hm hl hj h7
  ·have ho:=h.ne (b:=g.inn r i') (by rw[h4];intro e;injection e with _ e;exact hi e);exact⟨d,by simp[Hset,hi],hl,cur',T',h1,h4,by rw[ho];exact h5,h6,PRc.Ca h.ro d _ 0 ho h7⟩
theorem C1.map(h:C1 g w r i j c cur new T){q:Nat}(hq:q≠r):SE g w q g (w.setRow (g.inn r i) new) q :=
 ⟨h.ro,rfl,fun _=>rfl,fun _ ho=>⟨ho,h.ne (by rw[ho];intro e;cases e)⟩,fun k _ ho=>⟨ho,h.ne (by rw[ho];intro e;injection e with e _;exact hq e)⟩⟩
theorem C1.lasts(h:C1 g w r i j c cur new T):Lasts [r] [] g w g (w.setRow (g.inn r i) new) :=
 ⟨h.ro,fun b q _ _ ho=>⟨ho,h.ne (by rw[ho];intro e;cases e)⟩,fun _ _=>rfl,fun _ _=>rfl,fun b q k _ hq ho=>⟨ho,h.ne (by rw[ho];intro e;injection e with e _;exact hq (by simp[e]))⟩,fun _ _ _=>rfl⟩
mutual
theorem VR.Bw(h:C1 g w r i j c cur new T):∀ (x:AV) (u:Value),VR g w x u→VR g (w.setRow (g.inn r i) new) (x.Bw r i j c) u
 |.undef,_,_=>by simp[AV.Bw,VR]
 |.v x,u,hu=>by simpa [AV.Bw,VR]using hu
 |.agg cs,u,hu=>by
  simp only[AV.Bw,VR]at hu ⊢;obtain⟨us,h1,h2⟩:=hu;exact⟨us,h1,VRs.Bw h cs us.toList h2⟩
 |.tup cs,u,hu=>by
  simp only[AV.Bw,VR]at hu ⊢;obtain⟨us,h1,h2⟩:=hu;exact⟨us,h1,VRs.Bw h cs us.toList h2⟩
 |.sl (.own q lo) m es,u,hu=>by
  simp only[AV.Bw,VR,Cq]at hu ⊢;refine⟨hu.1,?_⟩;rcases hu.2 with hu|hu|⟨cap,cur',T',h1,h2,h3,h5,h6,h7,h8⟩
  ·exact .inl hu
  ·exact .inr (.inl hu)
  ·have ho:=h.ne (b:=g.row q) (by rw[h5];intro e;cases e);exact .inr (.inr ⟨cap,cur',T',h1,h2,h3,h5,by rw[ho];exact h6,h7,PRe.Ca h.ro es _ m 0 ho h8⟩)
 |.sl .no m es,u,hu=>by
  simp only[AV.Bw,VR]at hu ⊢;exact PR.mono h.ro _ u hu
 |.sl .full m es,u,hu=>by
  simp only[AV.Bw,VR]at hu ⊢;exact PR.mono h.ro _ u hu
 |.ptr s off,u,hu=>by simpa [AV.Bw,VR]using hu
 |.mp s,u,hu=>by simpa [AV.Bw,VR]using hu
 |.ep (.own q l) k d off,u,hu=>by
  simp only[AV.Bw,VR,Fg]at hu ⊢;obtain⟨cur',T',h1,h2,h3,h4,h5⟩:=hu;have ho:=h.ne (b:=g.row q) (by rw[h2];intro e;cases e);exact⟨cur',T',h1,h2,by rw[ho];exact h3,h4,PRc.Ca h.ro d _ 0 ho h5⟩
 |.ep .no k d off,u,hu=>by
  simp only[AV.Bw,VR,Fg]at hu ⊢;obtain⟨ad,h1,h0,h2,h3⟩:=hu;exact⟨ad,h1,h0,h2,PRc.mono h.ro _ ad 0 h2 h3⟩
 |.ep .full k d off,u,hu=>by
  simp only[AV.Bw,VR,Fg]at hu ⊢;obtain⟨ad,h1,h0,h2,h3⟩:=hu;exact⟨ad,h1,h0,h2,PRc.mono h.ro _ ad 0 h2 h3⟩
 |.fn f AU,u,hu=>by
  simp only[AV.Bw,VR]at hu ⊢;obtain⟨us,h1,h2⟩:=hu;exact⟨us,h1,VRs.Bw h AU us.toList h2⟩
 |.mv f AU,u,hu=>by
  simp only[AV.Bw,VR]at hu ⊢;obtain⟨us,h1,h2⟩:=hu;exact⟨us,h1,VRs.Bw h AU us.toList h2⟩
 |.ifc t x,u,hu=>by
  simp only[AV.Bw,VR]at hu ⊢;obtain⟨y,h1,h2⟩:=hu;exact⟨y,h1,VR.Bw h x y h2⟩
 |.hnd k q i' j' off m bss,u,hu=>by
  simp only[AV.Bw];split
  ·rename_i hq;subst hq;split
   ·rename_i hm;simp only[VR]at hu ⊢;exact h.hnd hm hu
   ·simp[VR]
  ·rename_i hq;simp only[VR]at hu ⊢;exact hu.map (h.map hq)
 |.mem b xs,u,hu=>by
  simp only[AV.Bw,VR]at hu ⊢;obtain⟨ad,vs,h1,h2,h3,h4⟩:=hu;obtain⟨k1,k2⟩:=h2.move h.ro h1;exact⟨ad,vs,k1,k2,VRs.Bw h xs vs h3,h4⟩
theorem VRs.Bw(h:C1 g w r i j c cur new T):∀ (cs:List AV) (us:List Value),VRs g w cs us→VRs g (w.setRow (g.inn r i) new) (F9 r i j c cs) us
 |[],[],_=>by simp[F9,VRs]
 |[],_::_,hu=>by simp[VRs]at hu
 |_::_,[],hu=>by simp[VRs]at hu
 | x::cs,u::us,hu=>by
  simp only[F9,VRs]at hu ⊢;exact⟨VR.Bw h x u hu.1,VRs.Bw h cs us hu.2⟩
end
theorem R.Bw(hR:R C A N g st a w)(h:C1 g w r i j c cur new T):R C A N g (st.Bw r i j c) a (w.setRow (g.inn r i) new) where
 size:=hR.size
 defs:=hR.defs
 tm:=fun k x hx=>by
  simp only[St.Bw,KN]at hx;obtain⟨y,hy,rfl⟩:=Option.map_eq_some_iff.1 hx;obtain⟨u,hu,hv⟩:=hR.tm k y hy;exact⟨u,hu,VR.Bw h y u hv⟩
 ob:=fun s cs hs=>by
  simp only[St.Bw,KN]at hs;obtain⟨y,hy,rfl⟩:=Option.map_eq_some_iff.1 hs;have h1:=(hR.ob s y hy).1;exact(hR.ob s y hy).lift rfl h1 (h.ne (by rw[h1];intro e;cases e)) (fun us hu=>VRs.Bw h _ _ hu)
 fr:=hR.fr.step h.lasts rfl ⟨rfl,by first|exact Nat.le_refl _|exact Nat.le_succ _⟩ rfl (by simp) (fun b _ ho=>⟨ho,h.ne (by rw[ho];intro e;cases e)⟩) (fun _ _ he=>by cases he)
end
section
variable {C:Ctx} {A:A0} {N:Nat} {g g':Gh} {st:St} {a:Act} {w w':World} {P:Program}
variable {r idx:Nat} {c:List AV} {cur new:Array Value} {T:TypeId}
def Ol:List AV→Bool
 |[]=>true
 |.v _::cs=>Ol cs
 |_=>false
def Ov(n:Nat)(st:St)(p x:AV):Option St :=
 match p with
 |.ptr s off=>match lk s st.Al with
  |some cs=>if Cc x.cells=true∧x.cells.length=n∧off+n≤cs.length then some ⟨st.tmps,FL s (cut cs off x.cells) st.Al⟩ else none
  |none=>none
 |.ep (.own r _) i cells off=>match K0 x.cells with
  |some ps=>if Cc x.cells=true∧ps.length=n∧x.cells.length=n∧off+n≤cells.length∧r∉rowsOf x.cells then some ((st.freeze (rowsOf x.cells)).setRow r i (cut cells off ps)) else none
  |none=>none
 |.hnd .iep r i j off _ [[c]]=>if Ol x.cells=true∧Cc x.cells=true∧x.cells.length=n∧off+n≤c.length then some (st.Bw r i j (cut c off x.cells)) else none
 |_=>none
theorem Rt{ro:Nat→Prop}:∀ {cs:List AV} {us:List Value},Ol cs=true→Cc cs=true→VRs g w cs us→PRl ro w cs us
 |[],[],_,_,_=>by simp[PRl]
 |[],_::_,_,_,h=>by simp[VRs]at h
 |_::_,[],_,_,h=>by simp[VRs]at h
 | x::cs,u::us,hp,ho,h=>by
  simp only[Cc,Bool.and_eq_true]at ho;simp only[VRs]at h;cases x with
  | v y =>
   simp only[Ol]at hp;simp only[PRl,PR];have h1:=h.1;simp only[VR]at h1;exact⟨⟨h1,ho.1⟩,Rt hp ho.2 h.2⟩
  |_=>simp[Ol]at hp
theorem Vn(hR:R C A N g st a w){t n:Nat}(h2:BJ P t=some n){p x:AV}{up ux:Value}(hp:VR g w p up)(hx:VR g w x ux){st':St}(hs:Ov n st p x=some st') :
 ∃ w' g',(Instr.storeAt t up ux).run P w=.ok () w'∧R C A N g' st' a w':=by
 unfold Ov at hs;split at hs
 ·rename_i s off;split at hs
  ·rename_i cs hcs;split at hs
   ·rename_i hc;simp only[Option.some.injEq]at hs;subst hs;simp only[VR]at hp;obtain⟨hmp,rfl⟩:=hp;obtain⟨w',h1,h2⟩:=hR.ai h2 hmp hcs hx hc.1 hc.2.1 hc.2.2;exact⟨w',g,h1,h2⟩
   ·cases hs
  ·cases hs
 ·rename_i r l i cells off;split at hs
  ·rename_i ps hps;split at hs
   ·rename_i hc;obtain⟨hok,hpl,hxl,hle,hrn⟩:=hc;simp only[Option.some.injEq]at hs;subst hs;have hxc:=VR.cells hx hok;have hR':=hR.freeze (rowsOf x.cells);have hpr:=Nq (S:=rowsOf x.cells) hxc hps (fun r hr=>hr) hok;have hp':=VR.freeze (S:=rowsOf x.cells) _ _ hp;simp only[AV.freeze,hrn,if_false,VR,Fg]at hp';obtain⟨cur,T,rfl,k2,k3,k4,k5⟩:=hp';have hul:ux.cells.size=n:=by rw[← hxl,VRs.length hxc];simp
    have hnlen:cells.length*i+cells.length≤cur.size:=by rw[Nat.mul_comm];simpa [Nat.add_mul]using k4
    have hrow:(Gh.freeze (rowsOf x.cells) g).row r=g.row r:=rfl;rw[hrow]at k2 k3 k5;have hrun:=JT (P:=P) (w:=w) (o:=i*cells.length+off) h2 hul k3 (by rw[Nat.mul_comm];omega) (Is hok hxc);generalize hnew:(cur.toList.take (i*cells.length+off)++ux.cells.toList++cur.toList.drop (i*cells.length+off+n)).toArray=new at hrun;have hcutl:(cut cells off ps).length=cells.length:=by simp[cut,hpl];omega
    have hget:∀ p,new[p]?=if p<i*cells.length+off then cur[p]? else if p<i*cells.length+off+n then ux.cells[p-(i*cells.length+off)]? else cur[p]?:=by
     intro p;have hmul:i*cells.length+cells.length≤cur.size:=by rw[Nat.mul_comm];exact hnlen
     rw[← hnew];simp only[List.getElem?_toArray];rw[List.append_assoc,List.getElem?_append];simp only[List.length_take,Array.length_toList];rw[Nat.min_eq_left (by omega)];split
     ·rename_i hlt;rw[List.getElem?_take,if_pos hlt];simp
     ·rename_i hge;rw[List.getElem?_append];simp only[Array.length_toList,hul]
      by_cases hlt:p<i*cells.length+off+n
      ·rw[if_pos (by omega),if_pos hlt];simp
      ·rw[if_neg (by omega),if_neg hlt,List.getElem?_drop];simp only[Array.getElem?_toList];congr 1;omega
    have hst:Stored (Gh.freeze (rowsOf x.cells) g) w r i (cut cells off ps) cur new T:=by
     refine⟨k2,k3,?_,?_,?_⟩
     ·rw[← hnew];have hmul:i*cells.length+cells.length≤cur.size:=by rw[Nat.mul_comm];exact hnlen
      simp only[List.size_toArray,List.length_append,List.length_take,List.length_drop,Array.length_toList,hul];omega
     ·intro q hq;rw[hcutl,Nat.add_mul]at hq;rw[hget];rcases hq with hq|hq
      ·rw[if_pos (by omega)]
      ·rw[if_neg (by omega),if_neg (by omega)]
     ·have hro:∀ b,b<w.heap.size→BM (Gh.freeze (rowsOf x.cells) g) b→BM (Gh.freeze (rowsOf x.cells) g) b∧(w.setRow (g.row r) new).heap[b]?=w.heap[b]?:=fun b _ ho =>
       ⟨ho,setRow_other w _ b new (fun e=>by rw[e]at ho;rw[ho]at k2;cases k2)⟩
      rw[hcutl,hrow];obtain⟨us,m1,m2⟩:=PRc.list _ _ _ k5;have hus:us.length=cells.length:=(PRl.length m1).symm;refine PRc.C4 _ (us.take off++ux.cells.toList++us.drop (off+n)) _ 0 ?_ ?_
      ·unfold cut;rw[hpl];exact PRl.append (PRl.append (PRl.mono hro (PRl.take off m1)) (PRl.mono hro hpr)) (PRl.mono hro (PRl.drop _ m1))
      ·intro j v hv;rw[add_lit,cell_of_row _ _ _ _ _ _ (setRow_heap w _ cur new T _ k3),hget];rw[List.append_assoc,List.getElem?_append]at hv;simp only[List.length_take,hus]at hv;rw[Nat.min_eq_left (by omega)]at hv;have hcell:∀ j v,us[j]?=some v→cur[i*cells.length+j]?=some v:=fun j v hv=>by
        have:=m2 j v hv;rw[add_lit,cell_of_row _ _ _ _ _ _ k3]at this;simpa using this
       split at hv
       ·rename_i hlt;rw[List.getElem?_take,if_pos hlt]at hv;rw[if_pos (by omega)];have:=hcell j v hv;simpa using this
       ·rename_i hge;rw[List.getElem?_append]at hv;simp only[Array.length_toList,hul]at hv;split at hv
        ·rename_i hlt;rw[if_neg (by omega),if_pos (by omega)];rw[show i*cells.length+(0+j)-(i*cells.length+off)=j-off from by omega];simpa using hv
        ·rename_i hge2;rw[List.getElem?_drop]at hv;rw[if_neg (by omega),if_neg (by omega)];have:=hcell _ v hv;rw[show i*cells.length+(0+j)=i*cells.length+(off+n+(j-off-n)) from by omega];exact this
    exact⟨_,_,by simpa [Instr.storeAt,Instr.sureAddr,Gh.freeze]using hrun,hR'.setRow hst⟩
   ·cases hs
  ·cases hs
 ·rename_i r i j off m cells;split at hs
  ·rename_i hc;obtain⟨hpl,hok,hxl,hle⟩:=hc;simp only[Option.some.injEq]at hs;subst hs;have hxc:=VR.cells hx hok;have hpr:=Rt (ro:=BM g) hpl hok hxc;simp only[VR]at hp;obtain⟨hm,d,hd,hdl,cur,T,rfl,k2,k3,k4,k5⟩:=hp;simp only[List.cons.injEq,and_true]at hd;subst hd;subst hdl;have hul:ux.cells.size=n:=by rw[← hxl,VRs.length hxc];simp
   have hnlen:cells.length*j+cells.length≤cur.size:=by rw[Nat.mul_comm];simpa [Nat.add_mul]using k4
   have hrun:=JT (P:=P) (w:=w) (o:=j*cells.length+off) h2 hul k3 (by rw[Nat.mul_comm];omega) (Is hok hxc);generalize hnew:(cur.toList.take (j*cells.length+off)++ux.cells.toList++cur.toList.drop (j*cells.length+off+n)).toArray=new at hrun;have hcutl:(cut cells off x.cells).length=cells.length:=by simp[cut,hxl];omega
   have hmul:j*cells.length+cells.length≤cur.size:=by rw[Nat.mul_comm];exact hnlen
   have hget:∀ p,new[p]?=if p<j*cells.length+off then cur[p]? else if p<j*cells.length+off+n then ux.cells[p-(j*cells.length+off)]? else cur[p]?:=by
    intro p;rw[← hnew];simp only[List.getElem?_toArray];rw[List.append_assoc,List.getElem?_append];simp only[List.length_take,Array.length_toList];rw[Nat.min_eq_left (by omega)];split
    ·rename_i hlt;rw[List.getElem?_take,if_pos hlt];simp
    ·rename_i hge;rw[List.getElem?_append];simp only[Array.length_toList,hul]
     by_cases hlt:p<j*cells.length+off+n
     ·rw[if_pos (by omega),if_pos hlt];simp
     ·rw[if_neg (by omega),if_neg hlt,List.getElem?_drop];simp only[Array.getElem?_toList];congr 1;omega
   have hst:C1 g w r i j (cut cells off x.cells) cur new T:=by
    refine⟨k2,k3,?_,?_,?_⟩
    ·rw[← hnew];simp only[List.size_toArray,List.length_append,List.length_take,List.length_drop,Array.length_toList,hul];omega
    ·intro q hq;rw[hcutl,Nat.add_mul]at hq;rw[hget];rcases hq with hq|hq
     ·rw[if_pos (by omega)]
     ·rw[if_neg (by omega),if_neg (by omega)]
    ·have hro:∀ b,b<w.heap.size→BM g b→BM g b∧(w.setRow (g.inn r i) new).heap[b]?=w.heap[b]?:=fun b _ ho =>
      ⟨ho,setRow_other w _ b new (fun e=>by rw[e]at ho;rw[ho]at k2;cases k2)⟩
     rw[hcutl];obtain⟨us,m1,m2⟩:=PRc.list _ _ _ k5;have hus:us.length=cells.length:=(PRl.length m1).symm;refine PRc.C4 _ (us.take off++ux.cells.toList++us.drop (off+n)) _ 0 ?_ ?_
     ·unfold cut;rw[hxl];exact PRl.append (PRl.append (PRl.mono hro (PRl.take off m1)) (PRl.mono hro hpr)) (PRl.mono hro (PRl.drop _ m1))
     ·intro p v hv;rw[add_lit,cell_of_row _ _ _ _ _ _ (setRow_heap w _ cur new T _ k3),hget];rw[List.append_assoc,List.getElem?_append]at hv;simp only[List.length_take,hus]at hv;rw[Nat.min_eq_left (by omega)]at hv;have hcell:∀ p v,us[p]?=some v→cur[j*cells.length+p]?=some v:=fun p v hv=>by
       have:=m2 p v hv;rw[add_lit,cell_of_row _ _ _ _ _ _ k3]at this;simpa using this
      split at hv
      ·rename_i hlt;rw[List.getElem?_take,if_pos hlt]at hv;rw[if_pos (by omega)];have:=hcell p v hv;simpa using this
      ·rename_i hge;rw[List.getElem?_append]at hv;simp only[Array.length_toList,hul]at hv;split at hv
       ·rename_i hlt;rw[if_neg (by omega),if_pos (by omega)];rw[show j*cells.length+(0+p)-(j*cells.length+off)=p-off from by omega];simpa using hv
       ·rename_i hge2;rw[List.getElem?_drop]at hv;rw[if_neg (by omega),if_neg (by omega)];have:=hcell _ v hv;rw[show j*cells.length+(0+p)=j*cells.length+(off+n+(p-off-n)) from by omega];exact this
   exact⟨_,_,by simpa [Instr.storeAt,Instr.sureAddr]using hrun,hR.Bw hst⟩
  ·cases hs
 ·cases hs
end
end Go.Abs
namespace Go.Abs
def over(lo idx:Nat)(cs es:List (List AV)):List (List AV):=es.mapIdx fun i e=>if idx≤lo+i then (cs[lo+i-idx]?).getD e else e
theorem GY(lo idx:Nat)(cs es:List (List AV)):(over lo idx cs es).length=es.length:=by simp[over]
mutual
def AV.AQ(r n idx:Nat)(cs:List (List AV)):AV→AV
 |.undef=>.undef
 |.v x=>.v x
 |.agg xs=>.agg (Es r n idx cs xs)
 |.tup xs=>.tup (Es r n idx cs xs)
 |.sl (.own q lo) m es=>if q=r then (if m=n then .sl (.own q lo) m (over lo idx cs es) else .undef) else .sl (.own q lo) m es
 |.sl .no n es=>.sl .no n es
 |.sl .full n es=>.sl .full n es
 |.ptr s off=>.ptr s off
 |.ep (.own q l) i d off=>if q=r then .undef else .ep (.own q l) i d off
 |.ep .no i cells off=>.ep .no i cells off
 |.ep .full i cells off=>.ep .full i cells off
 |.fn f AU=>.fn f (Es r n idx cs AU)
 |.mv f AU=>.mv f (Es r n idx cs AU)
 |.mp o=>.mp o
 |.ifc t x=>.ifc t (x.AQ r n idx cs)
 |.hnd k q i j off m bss=>if q=r then .undef else .hnd k q i j off m bss
 |.mem b xs=>.mem b (Es r n idx cs xs)
def Es(r n idx:Nat)(cs:List (List AV)):List AV→List AV
 |[]=>[]
 | x::xs=>x.AQ r n idx cs::Es r n idx cs xs
end
def Nx(r n idx:Nat)(cs:List (List AV)):List (Nat × AV)→List (Nat × AV)
 |[]=>[]
 |(k,x)::l=>(k,x.AQ r n idx cs)::Nx r n idx cs l
def Nw(r n idx:Nat)(cs:List (List AV)):List (Nat × List AV)→List (Nat × List AV)
 |[]=>[]
 |(k,x)::l=>(k,Es r n idx cs x)::Nw r n idx cs l
def St.AQ(r n idx:Nat)(cs:List (List AV))(st:St):St:=⟨Nx r n idx cs st.tmps,Nw r n idx cs st.Al⟩
theorem Mk(r n idx:Nat)(cs:List (List AV))(k:Nat):∀ l:List (Nat × AV),lk k (Nx r n idx cs l)=(lk k l).map (·.AQ r n idx cs)
 |[]=>rfl
 |(j,x)::l=>by
  simp only[Nx,lk];split
  ·rfl
  ·exact Mk r n idx cs k l
theorem Mj(r n idx:Nat)(cs:List (List AV))(k:Nat):∀ l:List (Nat × List AV),lk k (Nw r n idx cs l)=(lk k l).map (Es r n idx cs)
 |[]=>rfl
 |(j,x)::l=>by
  simp only[Nw,lk];split
  ·rfl
  ·exact Mj r n idx cs k l
structure Ran(g:Gh)(w:World)(r n idx:Nat)(cs:List (List AV))(cur new:Array Value)(T:TypeId):Prop where
 own:g.own (g.row r)=.row r
 heap:w.heap[g.row r]?=some (.cells cur T (0,0))
 size:new.size=cur.size
 same:∀ p,p<idx*n∨(idx+cs.length)*n≤p→new[p]?=cur[p]?
 cell:PRe (BM g) (w.setRow (g.row r) new) cs ⟨g.row r,idx*n,none⟩ n 0
section
variable {C:Ctx} {A:A0} {N:Nat} {g g':Gh} {st:St} {a:Act} {w w':World} {P:Program}
variable {r n idx:Nat} {c:List (List AV)} {cur new:Array Value} {T:TypeId}
theorem Ran.ro(h:Ran g w r n idx c cur new T):∀ b,b<w.heap.size→BM g b→BM g b∧(w.setRow (g.row r) new).heap[b]?=w.heap[b]?:=fun b _ ho =>
 ⟨ho,setRow_other w _ b new (fun e=>by subst e;have:=h.own;rw[ho]at this;cases this)⟩
theorem Ran.other(h:Ran g w r n idx c cur new T){b q:Nat}(hq:q≠r)(ho:g.own b=.row q):(w.setRow (g.row r) new).heap[b]?=w.heap[b]? :=
 setRow_other w _ b new (fun e=>by subst e;have:=h.own;rw[ho]at this;injection this with this;exact hq this)
theorem Ran.heap'(h:Ran g w r n idx c cur new T):(w.setRow (g.row r) new).heap[g.row r]?=some (.cells new T (0,0)):=setRow_heap w _ cur new T _ h.heap
theorem Ran.elem(h:Ran g w r n idx c cur new T){i:Nat}{e:List AV}(he:e.length=n)(hi:i<idx∨idx+c.length≤i)(hp:PRc (BM g) w e ⟨g.row r,i*n,none⟩ 0) :
 PRc (BM g) (w.setRow (g.row r) new) e ⟨g.row r,i*n,none⟩ 0:=by
 refine PRc.move h.ro e _ 0 (fun k hk=>?_) hp;rw[add_lit,cell_of_row _ _ _ _ _ _ h.heap',cell_of_row _ _ _ _ _ _ h.heap];refine h.same _ ?_;rw[he]at hk;rcases hi with hlt|hgt
 ·left;have:(i+1)*n≤idx*n:=Nat.mul_le_mul_right _ hlt;rw[Nat.add_mul]at this;omega
 ·right;have:(idx+c.length)*n≤i*n:=Nat.mul_le_mul_right _ hgt;omega
theorem ZV{lo idx:Nat}{cs es:List (List AV)}{k:Nat}{e:List AV}(h:(over lo idx cs es)[k]?=some e) :
 (idx≤lo+k∧lo+k<idx+cs.length∧cs[lo+k-idx]?=some e)∨(es[k]?=some e∧(lo+k<idx∨idx+cs.length≤lo+k)):=by
 simp only[over,List.getElem?_mapIdx]at h;obtain⟨e0,h0,h1⟩:=Option.map_eq_some_iff.1 h;split at h1
 ·rename_i hle;cases hc:cs[lo+k-idx]? with
  |none =>
   rw[hc]at h1;simp only[Option.getD_none]at h1;subst h1;rw[List.getElem?_eq_none_iff]at hc;exact .inr ⟨h0,.inr (by omega)⟩
  |some e1 =>
   rw[hc]at h1;simp only[Option.getD_some]at h1;subst h1;have:lo+k-idx<cs.length:=by
    rcases Nat.lt_or_ge (lo+k-idx) cs.length with h|h
    ·exact h
    ·rw[List.getElem?_eq_none h]at hc;cases hc
   exact .inl ⟨hle,by omega,rfl⟩
 ·rename_i hle;subst h1;exact .inr ⟨h0,.inl (by omega)⟩
mutual
theorem VR.AQ(h:Ran g w r n idx c cur new T):∀ (x:AV) (u:Value),VR g w x u→VR g (w.setRow (g.row r) new) (x.AQ r n idx c) u
 |.undef,_,_=>by simp[AV.AQ,VR]
 |.v x,u,hu=>by simpa [AV.AQ,VR]using hu
 |.agg cs,u,hu=>by
  simp only[AV.AQ,VR]at hu ⊢;obtain⟨us,h1,h2⟩:=hu;exact⟨us,h1,VRs.AQ h cs us.toList h2⟩
 |.tup cs,u,hu=>by
  simp only[AV.AQ,VR]at hu ⊢;obtain⟨us,h1,h2⟩:=hu;exact⟨us,h1,VRs.AQ h cs us.toList h2⟩
 |.sl (.own q lo) m es,u,hu=>by
  simp only[AV.AQ]
  by_cases hq:q=r
  ·subst hq;simp only[if_true];split
   ·rename_i hm;subst hm;simp only[VR,Cq]at hu ⊢;refine⟨hu.1,?_⟩;rcases hu.2 with ⟨rfl,rfl⟩|⟨h0,rfl,hu'⟩|⟨cap,cur',T',h1,h2,h3,h5,h6,h7,h8⟩
    ·exact .inl ⟨rfl,by simp[over]⟩
    ·exact .inr (.inl ⟨h0,by simp[over],hu'⟩)
    ·have hh:=h.heap;rw[h6]at hh;injection hh with hh
     injection hh with hh1 hh2
     subst hh1;have hlen:=GY lo idx c es;refine .inr (.inr ⟨cap,new,T,by rw[hlen];exact h1,by rw[hlen];exact h2,h3,h5,h.heap',by rw[h.size];exact h7,?_⟩);refine PRe.UU _ _ _ 0 fun k e he=>?_
     rcases ZV he with ⟨hle,hlt,he⟩|⟨he,hne⟩
     ·obtain⟨e1,e2⟩:=PRe.at_ c _ _ 0 h.cell _ e he;refine⟨e1,?_⟩;obtain⟨us,k1,k2⟩:=PRc.list _ _ _ e2;refine PRc.C4 _ us _ _ k1 fun j v hv=>?_
      have:=k2 j v hv;rw[add_lit]at this ⊢;rw[show lo*m+((0+k)*m+j)=idx*m+((0+(lo+k-idx))*m+j) from by
       have e1:lo*m+(0+k)*m=(lo+(0+k))*m:=(Nat.add_mul _ _ _).symm;have e2:idx*m+(0+(lo+k-idx))*m=(idx+(0+(lo+k-idx)))*m:=(Nat.add_mul _ _ _).symm;have e3:lo+(0+k)=idx+(0+(lo+k-idx)):=by omega
       rw[e3]at e1;omega]
      exact this
     ·obtain⟨e1,e2⟩:=PRe.at_ es _ _ 0 h8 k e he;refine⟨e1,?_⟩;have e3:=PRc.shift e ⟨g.row q,lo*m,none⟩ ((0+k)*m) 0 (by simpa using e2);rw[add_lit,← Nat.add_mul,show lo+(0+k)=lo+k from by omega]at e3;have e4:=h.elem (i:=lo+k) e1 hne e3;obtain⟨us,k1,k2⟩:=PRc.list _ _ _ e4;refine PRc.C4 _ us _ _ k1 fun j v hv=>?_
      have:=k2 j v hv;rw[add_lit]at this ⊢;rw[show lo*m+((0+k)*m+j)=(lo+k)*m+(0+j) from by
       rw[← Nat.add_assoc,← Nat.add_mul];simp]
      exact this
   ·simp[VR]
  ·simp only[hq,if_false];simp only[VR,Cq]at hu ⊢;refine⟨hu.1,?_⟩;rcases hu.2 with hu|hu|⟨cap,cur',T',h1,h2,h3,h5,h6,h7,h8⟩
   ·exact .inl hu
   ·exact .inr (.inl hu)
   ·have ho:=h.other hq h5;exact .inr (.inr ⟨cap,cur',T',h1,h2,h3,h5,by rw[ho];exact h6,h7,PRe.Ca h.ro es _ m 0 ho h8⟩)
 |.sl .no n es,u,hu=>by
  simp only[AV.AQ,VR]at hu ⊢;exact PR.mono h.ro _ u hu
 |.sl .full n es,u,hu=>by
  simp only[AV.AQ,VR]at hu ⊢;exact PR.mono h.ro _ u hu
 |.ptr s off,u,hu=>by simpa [AV.AQ,VR]using hu
 |.mp s,u,hu=>by simpa [AV.AQ,VR]using hu
 |.ep (.own q l) i d off,u,hu=>by
  simp only[AV.AQ]
  by_cases hq:q=r
  ·simp[hq,VR]
  ·simp only[hq,if_false];simp only[VR,Fg]at hu ⊢;obtain⟨cur',T',h1,h2,h3,h4,h5⟩:=hu;have ho:=h.other hq h2;exact⟨cur',T',h1,h2,by rw[ho];exact h3,h4,PRc.Ca h.ro d _ 0 ho h5⟩
 |.ep .no i cells off,u,hu=>by
  simp only[AV.AQ,VR,Fg]at hu ⊢;obtain⟨ad,h1,h0,h2,h3⟩:=hu;exact⟨ad,h1,h0,h2,PRc.mono h.ro _ ad 0 h2 h3⟩
 |.ep .full i cells off,u,hu=>by
  simp only[AV.AQ,VR,Fg]at hu ⊢;obtain⟨ad,h1,h0,h2,h3⟩:=hu;exact⟨ad,h1,h0,h2,PRc.mono h.ro _ ad 0 h2 h3⟩
 |.fn f AU,u,hu=>by
  simp only[AV.AQ,VR]at hu ⊢;obtain⟨us,h1,h2⟩:=hu;exact⟨us,h1,VRs.AQ h AU us.toList h2⟩
 |.mv f AU,u,hu=>by
  simp only[AV.AQ,VR]at hu ⊢;obtain⟨us,h1,h2⟩:=hu;exact⟨us,h1,VRs.AQ h AU us.toList h2⟩
 |.ifc t x,u,hu=>by
  simp only[AV.AQ,VR]at hu ⊢;obtain⟨y,h1,h2⟩:=hu;exact⟨y,h1,VR.AQ h x y h2⟩
 |.hnd k q i j off m bss,u,hu=>by
  simp only[AV.AQ]
  by_cases hq:q=r
  ·simp[hq,VR]
  ·simp only[hq,if_false];simp only[VR]at hu ⊢;exact hu.map ⟨h.ro,rfl,fun _=>rfl,fun _ ho=>⟨ho,h.other hq ho⟩,fun i _ ho=>⟨ho,setRow_other w _ _ new (fun e=>by have:=h.own;rw[← e,ho]at this;cases this)⟩⟩
 |.mem b xs,u,hu=>by
  simp only[AV.AQ,VR]at hu ⊢;obtain⟨ad,vs,h1,h2,h3,h4⟩:=hu;obtain⟨k1,k2⟩:=h2.move h.ro h1;exact⟨ad,vs,k1,k2,VRs.AQ h xs vs h3,h4⟩
theorem VRs.AQ(h:Ran g w r n idx c cur new T):∀ (cs:List AV) (us:List Value),VRs g w cs us→VRs g (w.setRow (g.row r) new) (Es r n idx c cs) us
 |[],[],_=>by simp[Es,VRs]
 |[],_::_,hu=>by simp[VRs]at hu
 |_::_,[],hu=>by simp[VRs]at hu
 | x::cs,u::us,hu=>by
  simp only[Es,VRs]at hu ⊢;exact⟨VR.AQ h x u hu.1,VRs.AQ h cs us hu.2⟩
end
theorem R.AQ(hR:R C A N g st a w)(h:Ran g w r n idx c cur new T):R C A N g (st.AQ r n idx c) a (w.setRow (g.row r) new) where
 size:=hR.size
 defs:=hR.defs
 tm:=fun k x hx=>by
  simp only[St.AQ,Mk]at hx;obtain⟨y,hy,rfl⟩:=Option.map_eq_some_iff.1 hx;obtain⟨u,hu,hv⟩:=hR.tm k y hy;exact⟨u,hu,VR.AQ h y u hv⟩
 ob:=fun s cs hs=>by
  simp only[St.AQ,Mj]at hs;obtain⟨y,hy,rfl⟩:=Option.map_eq_some_iff.1 hs;have h1:=(hR.ob s y hy).1;exact(hR.ob s y hy).lift rfl h1 (setRow_other w _ _ new (fun e=>by have:=h.own;rw[← e,h1]at this;cases this)) (fun us hu=>VRs.AQ h _ _ hu)
 fr:=by
  have hl:Lasts [r] [] g w g (w.setRow (g.row r) new):=⟨fun b hb ho=>⟨ho,(h.ro b hb ho).2⟩,fun b q hb hq ho=>⟨ho,h.other (by simpa using hq) ho⟩,fun _ _=>rfl,fun _ _=>rfl,fun b q i _ _ ho=>⟨ho,setRow_other w _ b new (fun e=>by subst e;have:=h.own;rw[ho]at this;cases this)⟩,fun _ _ _=>rfl⟩;exact hR.fr.step hl rfl ⟨rfl,by first|exact Nat.le_refl _|exact Nat.le_succ _⟩ rfl (by simp) (fun b _ ho=>⟨ho,setRow_other w _ b new (fun e=>by subst e;have:=h.own;rw[ho]at this;cases this)⟩) (fun _ _ he=>by cases he)
theorem Ran.UW(ho:g.own (g.row r)=.row r)(hh:w.heap[g.row r]?=some (.cells cur T (0,0))){us:List Value}(hl:∀ e∈c,e.length=n)(hu:us.length=c.length*n)(hfit:idx*n+us.length≤cur.size)
 (hp:PRl (BM g) w c.flatten us):Ran g w r n idx c cur (cur.toList.take (idx*n)++us++cur.toList.drop (idx*n+us.length)).toArray T:=by
 generalize hnew:(cur.toList.take (idx*n)++us++cur.toList.drop (idx*n+us.length)).toArray=new;have hcl:cur.toList.length=cur.size:=by simp
 have hsz:new.size=cur.size:=by
  rw[← hnew];simp only[List.size_toArray,List.length_append,List.length_take,List.length_drop,Array.length_toList];omega
 have hget:∀ j v,us[j]?=some v→new[idx*n+j]?=some v:=fun j v hj=>by
  have hj':j<us.length:=by
   rcases Nat.lt_or_ge j us.length with h|h
   ·exact h
   ·rw[List.getElem?_eq_none h]at hj;cases hj
  rw[← hnew];rw[List.getElem?_toArray,List.append_assoc,List.getElem?_append_right (by simp;omega),List.length_take,Array.length_toList,Nat.min_eq_left (by omega),List.getElem?_append_left (by omega)];rw[show idx*n+j-idx*n=j from by omega];exact hj
 refine⟨ho,hh,hsz,fun p hp'=>?_,?_⟩
 ·rw[← hnew,List.getElem?_toArray,← Array.getElem?_toList];rcases hp' with h|h
  ·rw[List.append_assoc,List.getElem?_append_left (by simp only[List.length_take,Array.length_toList];omega),List.getElem?_take,if_pos h]
  ·rw[Nat.add_mul,← hu]at h;rw[List.append_assoc,List.getElem?_append_right (by simp only[List.length_take,Array.length_toList];omega),List.length_take,Array.length_toList,Nat.min_eq_left (by omega),List.getElem?_append_right (by omega),List.getElem?_drop];congr 1;simp only[List.size_toArray];omega
 ·refine PRe.C4 c us _ _ 0 hl (PRl.mono (w:=w) (fun b hb ho'=>⟨ho',setRow_other w _ b new (fun e=>by subst e;rw[M8,ho]at ho';cases ho')⟩) hp) fun j v hj=>?_
  simp only[Nat.zero_mul,Nat.zero_add,add_lit];rw[cell_of_row _ _ _ _ _ _ (setRow_heap w _ cur new T _ hh)];exact hget j v hj
end
end Go.Abs
