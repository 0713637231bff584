/-
  Functions' results, and laws on them. No condition.
-/
import Derived.Test.YtdlcbilgemnomaaGreatSxMaz
import Derived.Test.YtdlcbilgemnomaaGreatSxMbb
import Derived.Test.YtdlcbilgemnomaaGreatSxMba
set_option linter.unusedSimpArgs false
set_option linter.unusedVariables false
set_option maxHeartbeats 16000000
open Go.Proofs.Tryz
namespace Go.Proofs.M
open Go Go.Sx Go.Proofs Go.Proofs.T Go.Proofs.Q
open Go.Proofs.P (Nb nbs Rk rkA rkErr checkNb hearM countM forgetM select')
open Go.Proofs.R (startM advM)
set_option maxRecDepth 4000
attribute [local irreducible] VR VC thenQ blockQ retL
theorem Ag2 {r:Rk} {slot:Int} (h:rkErr r=0) (hk:r.rank≠65535) (hs:0<=slot/\slot<=109951162):Fk (bcF r slot)=0:=by
 obtain⟨_,_,a3,a4,a5,_⟩:=R.Sg h hk;obtain⟨n1,_,_⟩:=P.UU h;have hm:=Aam (src:=r.node.toNat) (slot:=slot.toNat) (rank:=r.rank.toNat) (epoch:=r.epoch.toNat) (d:=AaA false) (by omega) (by omega) (by omega) (by omega);unfold bcn at hm;unfold bcF;have e1:((r.node.toNat:Nat):Int)=r.node:=by omega
 have e2:((r.epoch.toNat:Nat):Int)=r.epoch:=by omega
 have e3:((r.rank.toNat:Nat):Int)=r.rank:=by omega
 have e4:((slot.toNat:Nat):Int)=slot:=by omega
 rw[e1,e2,e3,e4] at hm;exact hm
theorem Wg (r:Rk) (slot:Int) (h:rkErr r=0) (hk:r.rank≠65535) (hs:0<=slot/\slot<=109951162):Ak 143 [rkA r,AI 0,AI 0,AI slot,Aen false] (.tup [frA (bcF r slot),AI 0]):=by
 obtain⟨_,_,a3,a4,a5,_⟩:=R.Sg h hk;have hc:=Ed (bcF r slot);rw[Ag2 h hk hs] at hc;have d1:=Cc ((65535:Int)<=r.rank);refine Ao func143 ntmps143 results143 fun E hS=>?_
 repeat'(first|refine Ad ?_|refine Aa (Wc) ?_|refine Aa (hc) ?_|fail)
 exact P.CO Ae rfl rfl rfl rfl rfl rfl rfl
theorem Wo (i id:Int) (hi:0<=i/\i<=31) (hid:0<=id/\id<=65535):Ak 97 [AI i,AI id] (AD (.str (PE i id))):=by
 have e:PE i id=mkS [i,id/256,id % 256]:=by
  unfold PE;rw[show i % 256=i by omega,show id/256 % 256=id/256 by omega]
 rw[e];refine Ao func97 ntmps97 results97 fun E hS=>?_
 repeat'(first|refine Ad ?_|refine H3 (L:=[i,id/256,id % 256]) (gk rfl) rfl rfl (by first|rfl|exact An.symm|(simp only[lns]<;>omega)) rfl rfl rfl rfl ?_|refine A7 ?_|fail)
 exact CV
theorem Aeo {t:Tb} {slot:Int} (h:(atM t slot).2=true) (hk:(atM t slot).1.kind=3):Aep t (slot % t.len)=(atM t slot).1.offset:=by
 unfold atM at h hk ⊢
 split
 ·rename_i hc;rw[Akc hc] at h;cases h
 ·rename_i hc;rw[Akb hc] at h hk
  split
  ·rename_i i e;rw[e] at hk;have hk:(t.cells.getD i default).kind=3:=hk;obtain⟨h1,h2,h3⟩:=Bs e;have h2:=AjT h2;unfold Aep;rw[It h1 (fun j hj=>by rw[h3 j hj,Ak4]) (by rw[Aju hk,Aju h2];rfl)]
  ·rename_i e;rw[e] at h;cases h
theorem AgT {t:Tb} {slot turns:Int} (h:K5 t slot turns=true):(atM t slot).2=true/\(atM t slot).1.kind=3/\BV t=0:=by
 unfold K5 at h;simp only[AjE,Ajw] at h;obtain⟨⟨⟨h1,h2⟩,h3⟩,_⟩:=h;refine⟨h1,h3,?_⟩;unfold Eb at h2
 split at h2
 ·cases h2
 ·omega
theorem Yt (x:MN) (slot turns:Int) (hs:0<=slot/\slot<=109951162):Ak 98 [mnA x,AI slot,AI turns] (.tup [acA (DS slot turns x).2.1,mnA (DS slot turns x).1,AB (DS slot turns x).2.2]):=by
 have hd:=Yp x.st.tb slot turns hs.2;have ha:=R.Ys x.rk;have hac:=Kn x.st slot;refine Ao func98 ntmps98 results98 fun E hS=>?_
 refine AG ?_;have hneg:¬(K5 x.st.tb slot turns=true/\(advM x.rk).2.2.2=0)->DS slot turns x=(x,(Hs x.st slot).1,false):=fun h=>Akb h
 cases h1:K5 x.st.tb slot turns with
 |false=>
  rw[h1] at hd;rw[hneg (fun h=>by rw[h1] at h;cases h.1)]
  repeat'(first|refine Ad ?_|refine Aa (ha) ?_|refine Aa (hd) ?_|refine Aa (hac) ?_|fail)
  exact Ag (Al (l:=[(6,.c (.ptr 6 0)),(7,.c (.ptr 7 0)),(8,AB false)]) (b:=[(6,.box (Hs x.st slot).1.cs),(7,.box x.cs)])) AE
 |true=>
  rw[h1] at hd;by_cases h2:(advM x.rk).2.2.2=0
  ·have d2:=Aju h2;obtain⟨g1,g2⟩:=Sj h2;obtain⟨t1,t2,t3⟩:=AgT h1;have hl:=B4 t3;have hmk:=Wg x.rk slot g1 g2 hs;have hof:=QD x.st.tb slot hs.1 hl.2.1 (by omega);rw[Aeo t1 t2] at hof;have hpos:DS slot turns x=({x with rk:=(advM x.rk).1},Ahx 1 (atM x.st.tb slot).1.offset (bcF x.rk slot),true):=Akc ⟨h1,h2⟩;rw[hpos]
   repeat'(first|refine Ad ?_|refine Aa (ha) ?_|refine Aa (hd) ?_|refine Aa (hmk) ?_|refine Aa (hof) ?_|fail)
   exact Ag (Al (l:=[(6,.c (.ptr 6 0)),(7,.c (.ptr 7 0)),(8,AB true)]) (b:=[(6,.box (Ac.cs (Ahx 1 (atM x.st.tb slot).1.offset (bcF x.rk slot)))),(7,.box (MN.cs {x with rk:=(advM x.rk).1}))])) AE
  ·have d2:=Ajv h2;rw[hneg (fun h=>h2 h.2)]
   repeat'(first|refine Ad ?_|refine Aa (ha) ?_|refine Aa (hd) ?_|refine Aa (hac) ?_|fail)
   exact Ag (Al (l:=[(6,.c (.ptr 6 0)),(7,.c (.ptr 7 0)),(8,AB false)]) (b:=[(6,.box (Hs x.st slot).1.cs),(7,.box x.cs)])) AE
def Mv (f:Nat->MN) (l:List MN) (k:Nat):List MN:=(List.range k).map f++l.drop k
theorem Lr {f:Nat->MN} {l:List MN} {k:Nat} (h:k<=l.length):(Mv f l k).length=l.length:=by simp[Mv];omega
theorem Ve {f:Nat->MN} {l:List MN} {k:Nat} (h:k<l.length):(Mv f l k).getD k default=l.getD k default:=by
 unfold Mv;rw[Ajt,AkE (by simp),AjK,Ald,Ak2,AkI,AkX,Ajt]
theorem Vd {f:Nat->MN} {l:List MN} {k:Nat} (h:k<l.length):(Mv f l k).set k (f k)=Mv f l (k+1):=by
 unfold Mv;rw[List.set_append_right _ _ (by simp),AjK,Ald,Ak2,drop_cons h,List.set_cons_zero,AkN,Akl,AjP]
 rfl
theorem Vf {f:Nat->MN} {l:List MN}:Mv f l l.length=(List.range l.length).map f:=by simp[Mv]
theorem Ad8 {x:MN} {slot:Int} (h:AU x.st=0) (hs:0<=slot/\slot<=109951162):∃(s2:Sta) (l:List Pk),Ak 95 [stA x.st,AI slot] (.tup [stA s2,AD (pks l),AI 0])/\MX slot x={x with st:=s2}:=by
 obtain⟨e,_⟩:=Ud h hs;have:=ND x.st slot;rw[e] at this;exact⟨_,_,this,Akc e⟩
theorem Abg {w:Wk} {slot:Int} (h:AU w.nd.st=0) (hs:0<=slot/\slot<=109951162) (hb:w.bc=false):∃(s2:Sta) (u:Up),Ak 100 [stA w.nd.st,AI slot,rsA w.rs] (.tup [stA s2,upA u,AI 0])/\Dh slot w={w with nd:={w.nd with st:=s2},up:=u}:=by
 obtain⟨e,_⟩:=Ly w.rs h hs;have:=To w.nd.st slot w.rs;rw[e] at this;refine⟨_,_,this,?_⟩;unfold Dh;rw[Akb (by rw[hb];simp),e,Akc rfl]
def acK (m:Me) (loads:List Ld) (k:Nat):List Ac:=(List.range k).map fun i=>(wk1 m loads i).ac
def bcK (m:Me) (loads:List Ld) (k:Nat):List Bool:=(List.range k).map fun i=>(wk1 m loads i).bc
theorem Acl (m:Me) (loads:List Ld) (k:Nat):acK m loads (k+1)=acK m loads k++[(wk1 m loads k).ac]:=by
 unfold acK;rw[AkN,Akl];rfl
theorem Acd (m:Me) (loads:List Ld) (k:Nat):bcK m loads (k+1)=bcK m loads k++[(wk1 m loads k).bc]:=by
 unfold bcK;rw[AkN,Akl];rfl
def ldK (m:Me) (loads:List Ld) (i q:Nat):MN:=E9 m.slot i (loads.take q) (MX m.slot (m.nodes.getD i default))
theorem Abz {m:Me} {loads:List Ld} {i q:Nat} (h:q<loads.length):ldK m loads i (q+1)=if(loads.getD q default).slot=m.slot/\(loads.getD q default).node=i/\(i:Int)≠0 then G8 m.slot (ldK m loads i q) (PE i (ldK m loads i q).next) else ldK m loads i q:=by
 unfold ldK;rw[Bq h,Kr]
theorem Ahh {m:Me} {loads:List Ld} {n i:Nat} (h:i<n):(acK m loads n).getD i default=(wk1 m loads i).ac:=CY _ h
theorem Ag1 {m:Me} {loads:List Ld} {n i:Nat} (h:i<n):(bcK m loads n).getD i default=(wk1 m loads i).bc:=CY _ h
def arK (m:Me) (loads:List Ld) (sil:List Si) (i:Nat):List Ar:=if i=0 then m.arr else Afo m loads sil
theorem WD {m:Me} {loads:List Ld} {sil:List Si} {i:Nat} (hi:i<m.nodes.length):Hp m loads sil i=D0 m.slot (GA m.slot (arK m loads sil i) (wk3 m loads sil i)).2.nd/\arK m loads sil (i+1)=(GA m.slot (arK m loads sil i) (wk3 m loads sil i)).1:=by
 refine⟨by unfold Hp;rw[ZB m.slot [] (arK m loads sil i)],?_⟩;unfold arK;rw[Akb (by omega)];by_cases h:i=0
 ·subst h;rw[Akc rfl];unfold Afo;rw[(Mk m loads sil).2,Akc (by omega)]
 ·rw[Akb h,ZC (by rw[UB];omega)]
theorem NX (m:Me) (loads:List Ld) (sil:List Si) (hm:B6 m=0) (hl:loads.length<=1024):Ak 56 [meA m,AD (lds loads),AD (sis sil)] (meA (ID m loads sil)):=by
 obtain⟨hh,hr⟩:=DG.1 hm;have hn:=hh.n2;have hs:0<=m.slot/\m.slot<=109951162:=⟨hh.s1,by have:=hh.s2;omega⟩;refine Ao func56 ntmps56 results56 fun E hS=>?_
 refine AG ?_
 repeat'(first|refine AJ ?_|refine Ap ?_|refine sq 2 rfl ?_|fail)
 refine VC.le (σ':=AN [(1,AD (lds loads)),(2,AD (sis sil)),(3,.c (.ptr 3 0)),(6,.c (.ptr 6 0)),(7,.c (.row 107 m.nodes.length))] [(3,.box m.cs),(6,.box noM.cs),(107,.row 45 22 (rowOf MN.enc m.nodes))]) ?_ ?_
 ·refine A0 (fun n=>if n=107 then 28 else n) ?_ ?_ rfl (by first|rfl|(simp only[wfL,wfs,AA,Az];rfl))
  all_goals repeat'(first|exact tt0|refine⟨⟨_,rfl,?_⟩,?_⟩|exact .c .d|exact .c (.ptr rfl)|(refine .c (.row rfl ?_);((try dsimp only);first|rfl|omega|(simp only[lns]<;>omega));done)|exact .FA rfl rfl|refine .box ?_|exact .nil|refine .cons ?_ ?_|exact .d|fail)
  exact .CJ ((Akp _).trans (Dr (enc:=MN.enc) (sz:=22) fun _=>rfl)) Ai
 repeat'(first|refine Af ?_|fail)
 refine VC.le (le_nil (t:=8) (nm:=108) (T:=140) (sz:=14) rfl rfl) ?_;refine VC.le (le_nil (t:=9) (nm:=109) (T:=4) (sz:=1) rfl rfl) ?_;refine Er m.nodes.length (fun k=>AN [(1,AD (lds loads)),(2,AD (sis sil)),(3,.c (.ptr 3 0)),(6,.c (.ptr 6 0)),(7,.c (.row 107 (Mv (fun j=>(wk1 m loads j).nd) m.nodes k).length)),(8,.c (.row 108 (acK m loads k).length)),(9,.c (.row 109 (bcK m loads k).length)),(10,AI k)] [(3,.box m.cs),(6,.box noM.cs),(107,.row 45 22 (rowOf MN.enc (Mv (fun j=>(wk1 m loads j).nd) m.nodes k))),(108,.row 140 14 (rowOf Ac.enc (acK m loads k))),(109,.row 4 1 (rowOf XE (bcK m loads k)))]) ?_ ?_
 ·rw[show Mv (fun j=>(wk1 m loads j).nd) m.nodes 0=m.nodes from rfl,show acK m loads 0=[] from rfl,show bcK m loads 0=[] from rfl];exact Al
 ·intro k hk;have hN:=Lr (f:=fun j=>(wk1 m loads j).nd) hk;have hA:(acK m loads k).length=k:=by simp[acK]
  have hB:(bcK m loads k).length=k:=by simp[bcK]
  by_cases hc:k<m.nodes.length
  ·have hx:=hr k hc;have hget:=Ve (f:=fun j=>(wk1 m loads j).nd) hc;have hset:=Vd (f:=fun j=>(wk1 m loads j).nd) hc;have hN2:=Lr (f:=fun j=>(wk1 m loads j).nd) (show k+1<=m.nodes.length by omega);have hA2:=Acl m loads k;have hB2:=Acd m loads k;obtain⟨s2,lx,hexp,hexe⟩:=Ad8 hx.st hs;have hld0:ldK m loads k 0=MX m.slot (m.nodes.getD k default):=rfl;have hlds:=fun q (h:q<loads.length)=>Abz (m:=m) (i:=k) h
   have hldx:=fun q=>HM (slot:=m.slot) (i:=(k:Int)) (loads.take q) (x:=MX m.slot (m.nodes.getD k default)) (AcL hx hs).nx
   have hldx:∀q,0<=(ldK m loads k q).next/\(ldK m loads k q).next<=65535:=hldx;have hldn:ldK m loads k loads.length=Np m loads k:=by
    unfold ldK;rw[AkB];rfl
   have hact:=Yt (Np m loads k) m.slot m.turns hs;have hw:(wk1 m loads k).nd=(DS m.slot m.turns (Np m loads k)).1/\(wk1 m loads k).ac=(DS m.slot m.turns (Np m loads k)).2.1/\(wk1 m loads k).bc=(DS m.slot m.turns (Np m loads k)).2.2:=⟨rfl,rfl,rfl⟩;have hd:=Es ((k:Int)<((Mv (fun j=>(wk1 m loads j).nd) m.nodes k).length:Int));generalize Mv (fun j=>(wk1 m loads j).nd) m.nodes k=N at *;generalize gN:Mv (fun j=>(wk1 m loads j).nd) m.nodes (k+1)=N2 at *;generalize acK m loads k=A at *;generalize gA:acK m loads (k+1)=A2 at *;generalize bcK m loads k=B at *;generalize gB:bcK m loads (k+1)=B2 at *;rw[hexe] at hld0;rw[<-hget] at hexp hld0;generalize DS m.slot m.turns (Np m loads k)=an at *;obtain⟨an1,an2,an3⟩:=an;dsimp only at hw hact;rw[hw.1] at hset;rw[hw.2.1] at hA2;rw[hw.2.2] at hB2;clear hw hexe hx hget
   repeat'(first|refine AJ ?_|refine Aa (hexp) ?_|refine AS ?_|refine AQ ?_|refine Cn (gk rfl) rfl rfl (by omega) rfl rfl rfl ?_|refine sq 9 rfl ?_|refine BN ?_|fail)
   refine VC.le (σ':=AN [(1,AD (lds loads)),(2,AD (sis sil)),(3,.c (.ptr 3 0)),(6,.c (.ptr 6 0)),(7,.c (.row 107 N.length)),(8,.c (.row 108 A.length)),(9,.c (.row 109 B.length)),(10,AI k),(11,.c (.ptr 11 0))] [(3,.box m.cs),(6,.box noM.cs),(107,.row 45 22 (rowOf MN.enc N)),(108,.row 140 14 (rowOf Ac.enc A)),(109,.row 4 1 (rowOf XE B)),(11,.box (MN.cs (ldK m loads k 0)))]) ?_ ?_
   ·rw[hld0];exact Al
   clear hexp hld0
   repeat'(first|refine Af ?_|fail)
   refine Er loads.length (fun q=>AN [(1,AD (lds loads)),(2,AD (sis sil)),(3,.c (.ptr 3 0)),(6,.c (.ptr 6 0)),(7,.c (.row 107 N.length)),(8,.c (.row 108 A.length)),(9,.c (.row 109 B.length)),(10,AI k),(11,.c (.ptr 11 0)),(12,AI q)] [(3,.box m.cs),(6,.box noM.cs),(107,.row 45 22 (rowOf MN.enc N)),(108,.row 140 14 (rowOf Ac.enc A)),(109,.row 4 1 (rowOf XE B)),(11,.box (MN.cs (ldK m loads k q)))]) ?_ ?_
   ·exact Al
   ·intro q hq;by_cases hcq:q<loads.length
    ·have hdq:=Cz q loads.length;have hs1:=hlds q hcq;have hx1:=hldx q;generalize ldK m loads k q=y at *;generalize gY:ldK m loads k (q+1)=y2 at *;have hdata:=Wo (k:Int) y.next (by omega) hx1;have hgive:=NZ y m.slot (PE k y.next) hx1;by_cases c1:(loads.getD q default).slot=m.slot/\(loads.getD q default).node=k/\(k:Int)≠0
     ·have e1:decide ((loads.getD q default).slot=m.slot)=true:=Aju c1.1;have e2:decide ((loads.getD q default).node=(k:Int))=true:=Aju c1.2.1;have e3:=Cz 0 k;rw[Akc c1] at hs1
      repeat'(first|refine Af ?_|refine Aa (hdata) ?_|refine Aa (hgive) ?_|fail)
      refine BU (q+1) ?_;rw[gY,hs1];exact Al
     ·rw[Akb c1] at hs1
      repeat'(first|refine Af ?_|(refine Av ?_ ?_<;>intro h hq)|fail)
      all_goals try (exfalso;omega)
      all_goals
       refine BU (q+1) ?_;rw[gY,hs1];exact Al
    ·have hdq:=CM q loads.length;have hq:q=loads.length:=by omega
     subst hq;rw[hldn];generalize Np m loads k=x at *
     repeat'(first|refine Ad ?_|refine Aa (hact) ?_|refine AS ?_|refine Ap ?_|refine AY ?_|fail)
     refine BU (k+1) ?_;rw[gN,gA,gB,<-hset,hA2,hB2];exact BF (fun n=>if n=108 then 101 else if n=109 then 105 else n)
  ·have hk:k=m.nodes.length:=by omega
   subst hk;have hd:=Cc ((m.nodes.length:Int)<((Mv (fun j=>(wk1 m loads j).nd) m.nodes m.nodes.length).length:Int));have hres:=OZ (acM m loads) sil m.slot (by simp[acM];omega);rw[show(acM m loads).length=m.nodes.length by simp[acM],Ad9] at hres;have hAe:acK m loads m.nodes.length=acM m loads:=rfl;rw[Vf] at hd hN ⊢;have hR1:∀i,i<m.nodes.length->((List.range m.nodes.length).map fun i=>(wk2 m loads sil i).rs).getD i default=(wk2 m loads sil i).rs:=fun i hi=>CY _ hi
   have hR2:((List.range m.nodes.length).map fun i=>(wk2 m loads sil i).rs).length=m.nodes.length:=by simp
   have hA1:∀i,i<m.nodes.length->(acM m loads).getD i default=(wk2 m loads sil i).ac:=fun i hi=>Ahh hi
   have hB1:∀i,i<m.nodes.length->(bcK m loads m.nodes.length).getD i default=(wk2 m loads sil i).bc:=fun i hi=>Ag1 hi
   have hN1:∀i,i<m.nodes.length->((List.range m.nodes.length).map fun j=>(wk1 m loads j).nd).getD i default=(wk2 m loads sil i).nd:=fun i hi=>CY _ hi
   rw[hAe] at hA ⊢;have hst:ID m loads sil=⟨Mv (Hp m loads sil) ((List.range m.nodes.length).map fun j=>(wk1 m loads j).nd) m.nodes.length,m.slot+1,m.turns,arK m loads sil m.nodes.length⟩:=by
    rw[Jz];have:arK m loads sil m.nodes.length=Afo m loads sil:=Akb (by have:=hh.n1;omega);rw[this];have:=Vf (f:=Hp m loads sil) (l:=(List.range m.nodes.length).map fun j=>(wk1 m loads j).nd);rw[hN] at this;rw[this]
   rw[hst];clear hst hAe;generalize (List.range m.nodes.length).map (fun i=>(wk2 m loads sil i).rs)=R at *;generalize (List.range m.nodes.length).map (fun j=>(wk1 m loads j).nd)=N at *;generalize acM m loads=A at *;generalize bcK m loads m.nodes.length=B at *
   repeat'(first|refine AJ ?_|refine AQ ?_|refine sq 17 rfl ?_|fail)
   refine VC.le (σ':=AN [(2,AD (sis sil)),(3,.c (.ptr 3 0)),(6,.c (.ptr 6 0)),(7,.c (.row 107 N.length)),(8,AD (acs A)),(9,AD (Hj XE 1 B))] [(3,.box m.cs),(6,.box noM.cs),(107,.row 45 22 (rowOf MN.enc N))]) ?_ ?_
   ·exact Cu (fun n=>n) [108,109] hS
   repeat'(first|refine Af ?_|refine Aa (hres) ?_|fail)
   refine Er m.nodes.length (fun i=>AN [(2,AD (sis sil)),(3,.c (.ptr 3 0)),(6,.c (.ptr 6 0)),(7,.c (.row 107 (Mv (Hp m loads sil) N i).length)),(8,AD (acs A)),(9,AD (Hj XE 1 B)),(16,AD (rss R)),(17,AI i)] [(3,.box (Me.cs ⟨m.nodes,m.slot,m.turns,arK m loads sil i⟩)),(6,.box noM.cs),(107,.row 45 22 (rowOf MN.enc (Mv (Hp m loads sil) N i)))]) ?_ ?_
   ·rw[show Mv (Hp m loads sil) N 0=N from rfl,show arK m loads sil 0=m.arr from rfl];exact Al
   ·intro i hi;have hNl:=Lr (f:=Hp m loads sil) (l:=N) (k:=i) (by omega);by_cases hc:i<m.nodes.length
    ·have hup:=Ada (loads:=loads) (sil:=sil) hn hs hr hc;obtain⟨hp1,hp2⟩:=WD (loads:=loads) (sil:=sil) hc;have hget:=(Ve (f:=Hp m loads sil) (l:=N) (k:=i) (by omega)).trans (hN1 i hc);have hset:=Vd (f:=Hp m loads sil) (l:=N) (k:=i) (by omega);have hNl2:=Lr (f:=Hp m loads sil) (l:=N) (k:=i+1) (by omega);have har:(arK m loads sil i).length<=4096:=by
      unfold arK
      split
      ·exact hh.a1
      ·exact VF hh.a1
     have hw1:=(P1 (loads:=loads) hn hs hc (hr i hc)).1;have hsrc:(wk2 m loads sil i).rs.heard=true->(wk2 m loads sil i).rs.source<m.nodes.length:=fun h=>by
      obtain⟨j,hj,k1,e,_⟩:=Lf hc h;have:=((P1 (loads:=loads) hn hs hj (hr j hj)).2 k1).1;have e2:(wk2 m loads sil i).rs.source=(wk1 m loads j).ac.source:=congrArg Fr.source e;rw[e2,this];omega
     have hw1:RN m.nodes.length (m.nodes.getD 0 default).st.tb i (wk2 m loads sil i).nd:=hw1;have e1:=hA1 i hc;have e2:=hB1 i hc;have e3:=hR1 i hc;have hnode:(wk2 m loads sil i).node=i:=rfl;have h3:wk3 m loads sil i=En (Dm m.slot (Dh m.slot (wk2 m loads sil i))):=rfl;have hup0:(wk2 m loads sil i).up=zUp:=rfl;rw[hp1] at hset;rw[h3] at hset hp2;generalize hAr:arK m loads sil i=AR at *;generalize gR:arK m loads sil (i+1)=AR2 at *;generalize Mv (Hp m loads sil) N i=N1 at *;generalize gN:Mv (Hp m loads sil) N (i+1)=N2 at *;generalize wk2 m loads sil i=w at *;clear hp1 h3 hA1 hB1 hR1 hN1;have hdlt:=Cz i N1.length;obtain⟨d1,d2,d3,_⟩:=Z0 (slot:=m.slot) hw1 hs;have hdn:(Dh m.slot w).node=w.node:=by
      unfold Dh
      split
      ·rfl
      ·split<;>rfl
     repeat'(first|refine AJ ?_|refine AS ?_|refine AQ ?_|refine Cn (gk rfl) rfl rfl (by omega) rfl rfl rfl ?_|refine sq 23 rfl ?_|refine BN ?_|fail)
     refine VC.le (σ':=AN [(2,AD (sis sil)),(3,.c (.ptr 3 0)),(6,.c (.ptr 6 0)),(7,.c (.row 107 N1.length)),(8,AD (acs A)),(9,AD (Hj XE 1 B)),(16,AD (rss R)),(17,AI i),(18,.c (.ptr 18 0)),(19,.c (.ptr 19 0))] [(3,.box (Me.cs ⟨m.nodes,m.slot,m.turns,AR⟩)),(6,.box noM.cs),(107,.row 45 22 (rowOf MN.enc N1)),(18,.box (MN.cs w.nd)),(19,.box zUp.cs)]) ?_ ?_
     ·rw[<-hget];exact Al
     clear hget;refine Et (AN [(2,AD (sis sil)),(3,.c (.ptr 3 0)),(6,.c (.ptr 6 0)),(7,.c (.row 107 N1.length)),(8,AD (acs A)),(9,AD (Hj XE 1 B)),(16,AD (rss R)),(17,AI i),(18,.c (.ptr 18 0)),(19,.c (.ptr 19 0))] [(3,.box (Me.cs ⟨m.nodes,m.slot,m.turns,AR⟩)),(6,.box noM.cs),(107,.row 45 22 (rowOf MN.enc N1)),(18,.box (MN.cs (Dh m.slot w).nd)),(19,.box (Up.cs (Dh m.slot w).up))]) ?_ ?_
     ·cases hb:w.bc with
      |true=>
       have g1:(!B.getD i default)=false:=by rw[e2,hb];rfl
       rw[show Dh m.slot w=w from Akc hb,hup0]
       repeat'(first|refine Ad ?_|fail)
       exact Al
      |false=>
       have g1:(!B.getD i default)=true:=by rw[e2,hb];rfl
       obtain⟨s2,u,hdn2,hde⟩:=Abg (slot:=m.slot) hw1.st hs hb;rw[<-e3] at hdn2;rw[hde]
       repeat'(first|refine Ad ?_|refine Aa (hdn2) ?_|fail)
       exact Al
     clear hup0 e2 hw1;rw[hnode] at hdn;clear hnode;rw[<-d2] at hsrc e3;rw[<-d3] at e1;generalize Dh m.slot w=v at *;clear d2 d3;have hrnA:=U9 (slot:=m.slot) d1 hsrc;refine Et (AN [(2,AD (sis sil)),(3,.c (.ptr 3 0)),(6,.c (.ptr 6 0)),(7,.c (.row 107 N1.length)),(8,AD (acs A)),(9,AD (Hj XE 1 B)),(16,AD (rss R)),(17,AI i),(18,.c (.ptr 18 0)),(19,.c (.ptr 19 0))] [(3,.box (Me.cs ⟨m.nodes,m.slot,m.turns,AR⟩)),(6,.box noM.cs),(107,.row 45 22 (rowOf MN.enc N1)),(18,.box (MN.cs (Dm m.slot v).nd)),(19,.box (Up.cs v.up))]) ?_ ?_
     ·cases h1:v.up.some with
      |false=>
       rw[show Dm m.slot v=v from Akb (fun h=>by have:=(hup.1.2 ⟨h.1,h.2.1⟩).1;rw[h1] at this;cases this)]
       repeat'(first|refine Ad ?_|fail)
       exact Al
      |true=>
       by_cases h2:v.up.BM=3
       ·have g2:=Aju h2;obtain⟨b1,b2⟩:=hup.1.1 ⟨h1,h2⟩;obtain⟨b3,b4,b5⟩:=hup.2 h1;obtain⟨dd,hd0,hhear⟩:=P.Aa6 v.nd.nb v.up.source v.up.epoch v.up.rank m.slot d1.nb;by_cases h3:(hearM v.nd.nb v.up.source v.up.epoch v.up.rank m.slot).2=0
        ·have g3:=Aju h3;have e:=hd0 h3;subst e;have hA4:Dm m.slot v={v with nd:={v.nd with nb:=(hearM v.nd.nb v.up.source v.up.epoch v.up.rank m.slot).1}}:=by
          unfold Dm;rw[<-b3,<-b4,<-b5];exact Akc ⟨b1,b2,h3⟩
         rw[hA4]
         repeat'(first|refine Ad ?_|refine Aa (hhear) ?_|fail)
         exact Al
        ·have g3:=Ajv h3;have hA4:Dm m.slot v=v:=by
          unfold Dm;rw[<-b3,<-b4,<-b5];exact Akb (fun h=>h3 h.2.2)
         rw[hA4]
         repeat'(first|refine Ad ?_|refine Aa (hhear) ?_|fail)
         exact Al
       ·have g2:=Ajv h2;rw[show Dm m.slot v=v from Akb (fun h=>h2 (hup.1.2 ⟨h.1,h.2.1⟩).2)]
        repeat'(first|refine Ad ?_|fail)
        exact Al
     have hya:(Dm m.slot v).rs=v.rs/\(Dm m.slot v).ac=v.ac/\(Dm m.slot v).up=v.up/\(Dm m.slot v).node=v.node:=by
      unfold Dm
      split<;>exact⟨rfl,rfl,rfl,rfl⟩
     obtain⟨y1,y2,y3,y4⟩:=hya;rw[<-y1] at e3;rw[<-y2] at e1;rw[<-y3];rw[<-y4] at hdn;clear hup hsrc d1 y1 y2 y3 y4;generalize Dm m.slot v=y at *;have hrnB:=U8 hrnA;refine Et (AN [(2,AD (sis sil)),(3,.c (.ptr 3 0)),(6,.c (.ptr 6 0)),(7,.c (.row 107 N1.length)),(8,AD (acs A)),(9,AD (Hj XE 1 B)),(16,AD (rss R)),(17,AI i),(18,.c (.ptr 18 0)),(19,.c (.ptr 19 0))] [(3,.box (Me.cs ⟨m.nodes,m.slot,m.turns,AR⟩)),(6,.box noM.cs),(107,.row 45 22 (rowOf MN.enc N1)),(18,.box (MN.cs (En y).nd)),(19,.box (Up.cs y.up))]) ?_ ?_
     ·repeat'(first|refine AJ ?_|refine sq 30 rfl ?_|fail)
      refine VC.le (σ':=AN [(2,AD (sis sil)),(3,.c (.ptr 3 0)),(6,.c (.ptr 6 0)),(7,.c (.row 107 N1.length)),(8,AD (acs A)),(9,AD (Hj XE 1 B)),(16,AD (rss R)),(17,AI i),(18,.c (.ptr 18 0)),(19,.c (.ptr 19 0)),(22,.c (.ptr 22 0))] [(3,.box (Me.cs ⟨m.nodes,m.slot,m.turns,AR⟩)),(6,.box noM.cs),(107,.row 45 22 (rowOf MN.enc N1)),(18,.box (MN.cs y.nd)),(19,.box (Up.cs y.up)),(22,.box (PV y.ac).cs)]) ?_ ?_
      ·rw[<-e1];exact Al
      by_cases k1:y.ac.kind=1
      ·have g1:decide ((A.getD i default).kind=1)=true:=by rw[e1];exact Aju k1
       by_cases k2:y.ac.BM=4
       ·have g2:=Aju k2;by_cases k3:0<=y.ac.target
        ·have g3:=Aju k3;obtain⟨dd,hd0,hcnt⟩:=P.Yr y.nd.nb y.ac.target y.rs.AH hrnA.nb;have hcnt2:=hcnt;rw[<-e3] at hcnt2;by_cases k4:(countM y.nd.nb y.ac.target y.rs.AH).2=0
         ·have g4:=Aju k4;have e:=hd0 k4;subst e;rw[show En y={y with nd:={y.nd with nb:=(countM y.nd.nb y.ac.target y.rs.AH).1}} from Akc ⟨k1,k2,k3,k4⟩];rw[<-e3] at g4
          repeat'(first|refine Ad ?_|refine Aa (hcnt2) ?_|fail)
          exact Al
         ·have g4:=Ajv k4;rw[show En y=y from Akb (fun h=>k4 h.2.2.2)];rw[<-e3] at g4
          repeat'(first|refine Ad ?_|refine Aa (hcnt2) ?_|fail)
          exact Al
        ·have g3:=Ajv k3;rw[show En y=y from Akb (fun h=>k3 h.2.2.1)]
         repeat'(first|refine Ad ?_|fail)
         exact Al
       ·have g2:=Ajv k2;rw[show En y=y from Akb (fun h=>k2 h.2.1)]
        repeat'(first|refine Ad ?_|fail)
        exact Al
      ·have g1:decide ((A.getD i default).kind=1)=false:=by rw[e1];exact Ajv k1
       rw[show En y=y from Akb (fun h=>k1 h.1)]
       repeat'(first|refine Ad ?_|fail)
       exact Al
     have hya:(En y).up=y.up/\(En y).node=y.node:=by
      unfold En
      split<;>exact⟨rfl,rfl⟩
     obtain⟨y1,y2⟩:=hya;rw[<-y1];rw[<-y2] at hdn;clear y1 y2 hrnA e1 e3;generalize En y=z at *;have hrnF:=AcJ (slot:=m.slot) (arr:=AR) (w:=z) hrnB;refine Et (AN [(2,AD (sis sil)),(3,.c (.ptr 3 0)),(6,.c (.ptr 6 0)),(7,.c (.row 107 N1.length)),(8,AD (acs A)),(9,AD (Hj XE 1 B)),(16,AD (rss R)),(17,AI i),(18,.c (.ptr 18 0)),(19,.c (.ptr 19 0))] [(3,.box (Me.cs ⟨m.nodes,m.slot,m.turns,(GA m.slot AR z).1⟩)),(6,.box noM.cs),(107,.row 45 22 (rowOf MN.enc N1)),(18,.box (MN.cs (GA m.slot AR z).2.nd)),(19,.box (Up.cs z.up))]) ?_ ?_
     ·have hno:K4 z=false->GA m.slot AR z=(AR,z):=fun h=>Akc h
      unfold K4 at hno;cases k1:z.up.new with
      |false=>
       rw[hno (by rw[k1];rfl)]
       repeat'(first|refine Ad ?_|fail)
       exact Al
      |true=>
       by_cases k2:z.up.BM=4
       ·have g2:=Aju k2;by_cases k3:z.up.target=i
        ·have g3:decide (z.up.target=(i:Int))=true:=Aju k3;by_cases k4:z.up.data.size=3
         ·have g4:=Es ((z.up.data.size:Int)=3);have hyes:¬K4 z=false:=by
           unfold K4;rw[k1,g2,hdn,g3,Aju k4];simp
          by_cases k5:(i:Int)=0
          ·have g5:=Aju k5;have hf:GA m.slot AR z=(DR AR z.up.data m.slot,z):=by
            unfold GA;rw[Akb hyes,Akb (by omega)]
           have harr:=O3 AR z.up.data m.slot k4 har;rw[hf]
           repeat'(first|refine Ad ?_|refine Aa (harr) ?_|fail)
           exact Al
          ·have g5:=Ajv k5;have hf:GA m.slot AR z=(AR,{z with nd:=G8 m.slot z.nd z.up.data}):=by
            unfold GA;rw[Akb hyes,Akc (by omega)]
           have hgive:=NZ z.nd m.slot z.up.data hrnB.nx;rw[hf];generalize G8 m.slot z.nd z.up.data=q at *
           repeat'(first|refine Ad ?_|refine Aa (hgive) ?_|fail)
           exact Al
         ·have g4:=Cc ((z.up.data.size:Int)=3);rw[hno (by rw[Ajv k4,Ak4])]
          repeat'(first|refine Ad ?_|fail)
          exact Al
        ·have g3:decide (z.up.target=(i:Int))=false:=Ajv k3;rw[hno (by rw[hdn,g3,Ak4];rfl)]
         repeat'(first|refine Ad ?_|fail)
         exact Al
       ·have g2:=Ajv k2;rw[hno (by rw[g2,Ak4];rfl)]
        repeat'(first|refine Ad ?_|fail)
        exact Al
     generalize (GA m.slot AR z).1=AR3 at *;generalize (GA m.slot AR z).2.nd=x at *;have hsel:=Ny x m.slot hrnF.nb hs.1 (Go.Proofs.R.LX (RB hrnF.nb m.slot).1 hrnF.rk (m:=64) (by omega)).1 (by
      obtain⟨_,hq,_⟩:=Ba hrnF.st;have:=B9 hq;omega)
     generalize D0 m.slot x=x2 at *
     repeat'(first|refine AJ ?_|refine Aa (hsel) ?_|refine AS ?_|refine AY ?_|fail)
     refine BU (i+1) ?_;rw[gN,gR,<-hset,hp2];exact Al
    ·have hi:i=m.nodes.length:=by omega
     subst hi;generalize Mv (Hp m loads sil) N m.nodes.length=N1 at *;generalize arK m loads sil m.nodes.length=AR at *;have hd2:=Cc ((m.nodes.length:Int)<(N1.length:Int))
     repeat'(first|refine Ad ?_|refine AQ ?_|refine F2 rfl rfl rfl rfl rfl ?_|fail)
     refine Ag (DL (l:=[(6,.c (.ptr 6 0))]) (b:=[(6,.box (Me.cs ⟨N1,m.slot+1,m.turns,AR⟩))]) (fun n=>n) [107] hS ?_ ?_ rfl (by first|rfl|(simp only[wfL,wfs,AA,Az];rfl))) Ay
     all_goals repeat'(first|exact tt0|refine⟨⟨_,rfl,?_⟩,?_⟩|exact .c (.ptr rfl)|refine .box ?_|exact .nil|refine .cons ?_ ?_|exact .d|exact .Bm (by first|(simp;done)|decide) rfl rfl (fun _=>rfl)|fail)
     show CW _ _ _ (C.d (.int .i64 (IntKind.i64.wrap (m.slot+1)))) (C.d (.int .i64 (m.slot+1)));rw[show IntKind.i64.wrap (m.slot+1)=m.slot+1 from wrap_i64 (by omega)];exact .d
end Go.Proofs.M
