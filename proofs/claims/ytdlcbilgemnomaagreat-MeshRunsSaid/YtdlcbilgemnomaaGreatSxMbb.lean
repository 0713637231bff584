/-
  Functions' results, and laws on them. No condition.
-/
import Derived.Test.YtdlcbilgemnomaaGreatSxMaw
set_option linter.unusedSimpArgs false
set_option linter.unusedVariables false
set_option maxRecDepth 4000
set_option maxHeartbeats 16000000
open Go.Proofs.Tryz
namespace Go.Sx
open Go
theorem VK {α β:Type} {R:α->β->Prop} {a:List α} {b:List β} (h:Bh R a b):∀n,Bh R (List.replicate n a).flatten (List.replicate n b).flatten
 |0=>.nil
 |n+1=>by
  rw[Ak7,Ak7,Aky,Aky];exact Bh.append h (VK h n)
theorem Y3 {z:Array Value} (n:Nat):(madeCells z (n*z.size)).toList=(List.replicate n z.toList).flatten:=Gb (z:=z) rfl n
theorem Yl {α:Type} {a:List α}:∀n,(List.replicate n a).flatten.length=n*a.length
 |0=>by simp
 |n+1=>by
  rw[Ak7,Aky,Ajy,Yl n,Ak3];omega
section
variable {P:Program} {N:Nat} {E:Env P N} {ops:Array Oper} {dr:Bool} {rest:List Oper} {σ:St} {tr:Trace} {K:St->Prop}
 {d:Nat} {t yt ty te:TypeId} {pos:String} {af:Array Edge} {gd:Option (Nat×Bool)} {gR:Ck} {x y z:Operand} {ti ei:TyI}
theorem AaJ {n:Nat} {kd:IntKind} {i:Int} {zs:List C} [ht:AT P t ti] [het:AT P te ei] (hg:GOK N ops σ gd gR) (hx:ev σ x=some (AD (.int kd i))) (hk:ti.k=.slice te) (hz:P0 ei.zero=some zs) (hzl:zs.length=ei.size) (hzs:ei.zero.cells.size=ei.size) (hby:ei.bytes<=65536)
  (h0:0<=i) (hn:n=i.toNat) (hmax:n<=65536) (hfresh:σ (.b d)=none) (hN:Nat.blt d N=true)
  (k:VR E ops dr rest ((σ.upd (.b d) (some (.k (.row te ei.size (List.replicate n zs))))).set d (.c (.row d n))) ((gR.map (·.1)++(opK x++[.b d]),[.b d,.s d]) :: tr) K):VR E ops dr (⟨some d,.makeSlice t x x,ty,pos,af,gd⟩ :: rest) σ tr K:=by
 refine EP (R:=opR x (AD (.int kd i))++[(.b d,none)]) (U:=[(.b d,some (.k (.row te ei.size (List.replicate n zs)))),(.s d,some (.v (.c (.row d n))))]) hg (fun σ a w ρ Im hs hR K Q hK=>?_)
  (Ah (Bp hx) (by intro p hp;rw[AjI] at hp;subst hp;exact hfresh)) (by rw[Akl,A4];rfl) rfl k
 have hf:σ (.b d)=none:=hR (.b d,none) (by simp);obtain⟨hr,_⟩:=B5 hs (Cb hx fun p hp=>hR p (AjA _ hp));have he:a.eval x=.int kd i:=hr;have hi:i=(n:Int):=by omega
 clear hn;subst hi;obtain⟨hz1,hz2⟩:=Ht (ρ:=E2 ρ d ⟨w.heap.size,n,false⟩) (w:=w.alloc (.cells (madeCells ei.zero.cells (n*ei.size)) te)) (Im:=Im) hz;obtain⟨inf,hi1,hi2,hi3,hi4⟩:=het.get;have hb2:(ei.bytes:Int)*(n:Int)<=281474976710656:=by
  have:=Nat.mul_le_mul hby hmax;have e:((ei.bytes*n:Nat):Int)=(ei.bytes:Int)*(n:Int):=Int.natCast_mul _ _;omega
 have hmk:=run_make (P:=P) w t te inf ei.zero (ht.slice hk) hi1 hi4 kd kd (n:Int) (n:Int) (by omega) (by omega) (by rw[hi3];exact hb2) (by omega);rw[hi2,Ale] at hmk;unfold Oper.wp;have hrun:(execOp a.eval ⟨some d,.makeSlice t x x,ty,pos,af,gd⟩).run P w=.ok (.value (.slice (some ⟨w.heap.size,0,none⟩) n n)) (w.alloc (.cells (madeCells ei.zero.cells (n*ei.size)) te)):=by
  simp[execOp,he,hmk]
 rw[hrun];refine hK _ _ ?_;have hml:(madeCells ei.zero.cells (n*ei.size)).toList=(List.replicate n ei.zero.cells.toList).flatten:=by rw[<-hzs];exact Y3 n
 have hnew:E2 ρ d ⟨w.heap.size,n,false⟩ d=⟨w.heap.size,n,false⟩:=by simp[E2]
 have h1:A8 E (σ.upd (.b d) (some (.k (.row te ei.size (List.replicate n zs))))) a (w.alloc (.cells (madeCells ei.zero.cells (n*ei.size)) te)) (E2 ρ d ⟨w.heap.size,n,false⟩) Im:=by
  refine hs.QZ hf _ n ?_ (fun m hm=>?_)
  ·unfold BQ;rw[hnew];simp only[Akr,if_false];refine⟨(madeCells ei.zero.cells (n*ei.size)).toList,[],by rw[AjQ,Array.toArray_toList];exact heap_alloc_new w _,?_,?_,?_,?_,?_⟩
   ·rw[hml];exact VK hz1 n
   ·intro x hx;rw[Aka hx,hzl]
   ·rw[hml,Yl];show n*ei.zero.cells.toList.length+0=n*ei.size;rw[Array.length_toList,hzs];omega
   ·show(List.replicate n zs).length<=n;simp
   ·show n<=maxLen;unfold maxLen;omega
  ·exfalso;simp only[Blk.mentions,AjM] at hm;obtain⟨x,hx,c,hc,hcm⟩:=hm;rw[Aka hx] at hc;have:=hz2 m;rw[AjN] at this;exact this c hc hcm
 refine⟨_,_,h1.put (by simpa using hN) ?_ ?_⟩
 ·show _=_;rw[hnew];rfl
 ·intro nm hn;have:d=nm:=by simpa [AV.mentions,AV.A3,C.mentions] using hn
  subst this;rw[St.AM];simp
theorem Yh {α:Type} {enc:α->List D} {x:α} {zs:List C} (h:zs=(enc x).map .d) (n:Nat):List.replicate n zs=rowOf enc (List.replicate n x):=by
 unfold rowOf;rw[List.map_replicate,h]
end
end Go.Sx
namespace Go.Proofs.M
open Go Go.Sx Go.Proofs Go.Proofs.T Go.Proofs.Q
attribute [local irreducible] VR VC thenQ blockQ retL
def AcG (A:List Ac) (sil:List Si) (slot:Int) (i j:Nat):Bool:=decide ((A.getD j default).kind=1)&&decide ((A.getD j default).offset=(A.getD i default).offset)&&Ei sil j i slot
def E6 (A:List Ac) (sil:List Si) (slot:Int) (i k:Nat):List Nat:=(List.range k).filter (AcG A sil slot i)
def Abp:List Nat->Int
 |[j]=>j
 |_=>-1
def JS (A:List Ac) (sil:List Si) (slot:Int) (i:Nat):Int:=if(A.getD i default).kind≠2 then -1 else Abp (E6 A sil slot i A.length)
theorem Qs {A:List Ac} {sil:List Si} {slot:Int} {i k:Nat} (h:AcG A sil slot i k=true):E6 A sil slot i (k+1)=E6 A sil slot i k++[k]:=by
 unfold E6;rw[AkN,Akw];simp[h]
theorem NT {A:List Ac} {sil:List Si} {slot:Int} {i k:Nat} (h:AcG A sil slot i k=false):E6 A sil slot i (k+1)=E6 A sil slot i k:=by
 unfold E6;rw[AkN,Akw];simp[h]
theorem NS {A:List Ac} {sil:List Si} {slot:Int} {i:Nat} {k:Nat}:∀n,(E6 A sil slot i k).length<=(E6 A sil slot i (k+n)).length
 |0=>Akd _
 |n+1=>by
  refine Akn (NS n) ?_;cases h:AcG A sil slot i (k+n) with
  |true=>rw[show k+(n+1)=k+n+1 by omega,Qs h,Ajy];omega
  |false=>rw[show k+(n+1)=k+n+1 by omega,NT h];exact Akd _
theorem Abo {l:List Nat} (h:2<=l.length):Abp l=-1:=by
 match l,h with
 |_ :: _ :: _,_=>rfl
theorem WB {l:List Nat} (h:l.length<=1):(l=[]/\Abp l=-1)\/∃j:Nat,l=[j]/\Abp l=j:=by
 match l,h with
 |[],_=>exact .inl ⟨rfl,rfl⟩
 |[j],_=>exact .inr ⟨j,rfl,rfl⟩
theorem Tg (A:List Ac) (sil:List Si) (i:Nat) (slot:Int) (hi:i<A.length) (hl:A.length<=100000):Ak 145 [AD (acs A),AD (sis sil),AI (i:Int),AI slot] (AI (JS A sil slot i)):=by
 refine Ao func145 ntmps145 results145 fun E hS=>?_
 by_cases h2:(A.getD i default).kind=2
 ·have d2:decide ((A.getD i default).kind≠2)=false:=Ajv (fun h=>h h2);have e:JS A sil slot i=Abp (E6 A sil slot i A.length):=Akb (fun h=>h h2);rw[e]
  repeat'(first|refine Af ?_|fail)
  refine Ax (ι:=Nat) (fun k=>AN [(0,AD (acs A)),(1,AD (sis sil)),(2,AI (i:Int)),(3,AI slot),(9,AI (Abp (E6 A sil slot i k))),(10,AI k)] []) (fun k=>k<=A.length/\(E6 A sil slot i k).length<=1) (fun k=>A.length-k) 0 ⟨Ake _,Ake _⟩ ?_ ?_
  ·exact Al
  ·rintro k ⟨hk,hk1⟩;by_cases hc:k<A.length
   ·have hd:=Cz k A.length;have hh:=I9 sil (k:Int) (i:Int) slot;have hmiss:AcG A sil slot i k=false->E6 A sil slot i (k+1)=E6 A sil slot i k:=NT;have hhit:AcG A sil slot i k=true->E6 A sil slot i (k+1)=E6 A sil slot i k++[k]:=Qs;have hmono:=NS (A:=A) (sil:=sil) (slot:=slot) (i:=i) (k:=k+1) (A.length-(k+1));rw[show k+1+(A.length-(k+1))=A.length by omega] at hmono;unfold AcG at hmiss hhit;obtain⟨S,hS0⟩:∃S,S=E6 A sil slot i k:=⟨_,rfl⟩;rw[<-hS0] at hk1 hmiss hhit ⊢;by_cases k1:(A.getD k default).kind=1
    ·have f1:=Aju k1;by_cases k2:(A.getD k default).offset=(A.getD i default).offset
     ·have f2:=Aju k2;rw[f1,f2,AkZ,AkZ] at hmiss hhit;cases k3:Ei sil (k:Int) (i:Int) slot with
      |true=>
       rw[k3] at hh;have hs:=hhit k3;rcases WB hk1 with⟨e1,e2⟩|⟨j,e1,e2⟩
       ·rw[e2];have f3:decide ((0:Int)<=-1)=false:=rfl;have hs2:Abp (E6 A sil slot i (k+1))=(k:Int):=by rw[hs,e1];rfl
        have hs3:(E6 A sil slot i (k+1)).length<=1:=by rw[hs,e1];exact Akd _
        repeat'(first|refine Af ?_|refine Aa (hh) ?_|fail)
        refine⟨k+1,⟨by omega,hs3⟩,by omega,?_⟩;rw[hs2];exact Al
       ·rw[e2];have f3:=Es ((0:Int)<=(j:Int));have hs2:Abp (E6 A sil slot i A.length)=-1:=Abo (by rw[hs,e1] at hmono;exact hmono);rw[hs2]
        repeat'(first|refine Af ?_|refine Aa (hh) ?_|fail)
        exact AZ
      |false=>
       rw[k3] at hh;have hs:=hmiss k3
       repeat'(first|refine Af ?_|refine Aa (hh) ?_|fail)
       refine⟨k+1,⟨by omega,by rw[hs];exact hk1⟩,by omega,?_⟩;rw[hs];exact Al
     ·have f2:=Ajv k2;have hs:=hmiss (by rw[f2,Ak4];rfl)
      repeat'(first|refine Af ?_|fail)
      refine⟨k+1,⟨by omega,by rw[hs];exact hk1⟩,by omega,?_⟩;rw[hs];exact Al
    ·have f1:=Ajv k1;have hs:=hmiss (by rw[f1];rfl)
     repeat'(first|refine Af ?_|fail)
     refine⟨k+1,⟨by omega,by rw[hs];exact hk1⟩,by omega,?_⟩;rw[hs];exact Al
   ·have hd:=CM k A.length;rw[show k=A.length by omega];have hd:=Cc ((A.length:Int)<(A.length:Int))
    repeat'(first|refine Ad ?_|fail)
    exact AZ
 ·have d2:decide ((A.getD i default).kind≠2)=true:=Aju h2;have e:JS A sil slot i=-1:=Akc h2;rw[e]
  repeat'(first|refine Ad ?_|fail)
  exact AZ
def XD (A:List Ac) (L:List Rs) (i j:Nat):List Rs:=L.set i {L.getD i default with heard:=true,BM:=(A.getD j default).BM,source:=(A.getD j default).source,target:=(A.getD j default).target,list:=(A.getD j default).list,seq:=(A.getD j default).seq,BR:=(A.getD j default).BR,number:=(A.getD j default).number,err:=(A.getD j default).err,slot:=(A.getD j default).slot,rank:=(A.getD j default).rank,epoch:=(A.getD j default).epoch,data:=(A.getD j default).data}
def AiF (L:List Rs) (j:Nat):List Rs:=L.set j {L.getD j default with AH:=true}
def Aea (A:List Ac) (sil:List Si) (slot:Int) (L:List Rs) (i:Nat):List Rs:=
 if JS A sil slot i<0 then L
 else if(A.getD (JS A sil slot i).toNat default).target=i/\Ei sil i (JS A sil slot i) slot=true then AiF (XD A L i (JS A sil slot i).toNat) (JS A sil slot i).toNat
 else XD A L i (JS A sil slot i).toNat
def UX (A:List Ac) (sil:List Si) (slot:Int):Nat->List Rs
 |0=>List.replicate A.length zRs
 |k+1=>Aea A sil slot (UX A sil slot k) k
theorem Aa9 (A:List Ac) (sil:List Si) (slot:Int) (L:List Rs) (i:Nat):(Aea A sil slot L i).length=L.length:=by
 unfold Aea
 split
 ·rfl
 ·split
  ·simp[AiF,XD]
  ·simp[XD]
theorem Lh (A:List Ac) (sil:List Si) (slot:Int):∀k,(UX A sil slot k).length=A.length
 |0=>by simp[UX]
 |k+1=>by rw[UX,Aa9,Lh A sil slot k]
theorem TX (A:List Ac) (sil:List Si) (slot:Int) (i:Nat):JS A sil slot i=-1\/∃j:Nat,j<A.length/\JS A sil slot i=j:=by
 unfold JS
 split
 ·exact .inl rfl
 ·match e:E6 A sil slot i A.length with
  |[]=>exact .inl rfl
  |[j]=>
   refine .inr ⟨j,?_,rfl⟩;have:j∈E6 A sil slot i A.length:=by rw[e];exact AjI.2 rfl
   unfold E6 at this;exact Aj2.1 (Aj3.1 this).1
  |_ :: _ :: _=>exact .inl rfl
theorem OZ (A:List Ac) (sil:List Si) (slot:Int) (hl:A.length<=1000):Ak 99 [AD (acs A),AD (sis sil),AI slot] (AD (rss (UX A sil slot A.length))):=by
 refine Ao func99 ntmps99 results99 fun E hS=>?_
 refine AG ?_
 repeat'(first|refine Af ?_|refine AaJ (gk rfl) rfl rfl rfl rfl rfl (by decide) (by omega) rfl (by omega) rfl rfl ?_|fail)
 refine Er A.length (fun k=>AN [(0,AD (acs A)),(1,AD (sis sil)),(2,AI slot),(7,.c (.row 107 (UX A sil slot k).length)),(8,AI k)] [(107,.row 142 15 (rowOf Rs.enc (UX A sil slot k)))]) ?_ ?_
 ·rw[Lh];refine A0 (fun n=>if n=107 then 12 else n) ?_ ?_ rfl (by first|rfl|(simp only[wfL,wfs,AA,Az];rfl))
  all_goals repeat'(first|exact tt0|refine⟨⟨_,rfl,?_⟩,?_⟩|exact .c .d|exact .c (.row rfl rfl)|fail)
  exact .CJ (show _=rowOf Rs.enc (List.replicate A.length zRs) from Yh (enc:=Rs.enc) (x:=zRs) rfl A.length) Ai
 ·intro k hk;have hL:=Lh A sil slot k;by_cases hc:k<A.length
  ·have hd:=Cz k A.length;have hh:=Tg A sil k slot hc (by omega);have hres:UX A sil slot (k+1)=Aea A sil slot (UX A sil slot k) k:=rfl;have hres2:=Lh A sil slot (k+1);unfold Aea at hres;generalize UX A sil slot k=L at *;rcases TX A sil slot k with e|⟨j,hj,e⟩
   ·rw[e] at hh hres;rw[Akc (by omega)] at hres
    repeat'(first|refine Af ?_|refine Aa (hh) ?_|fail)
    refine BU (k+1) ?_;rw[hres];exact Al
   ·have hr2:=I9 sil (k:Int) (j:Int) slot;rw[e] at hh hres;rw[Akb (by omega),Ale] at hres;have f1:=Cc ((j:Int)<0)
    repeat'(first|refine AJ ?_|refine Aa (hh) ?_|refine A5 ?_|refine AS ?_|refine C9 (gk rfl) rfl rfl rfl rfl rfl (by omega) (by first|rfl|exact An.symm|(simp only[lns]<;>omega)) rfl ?_|refine AY ?_|refine Jv (gk rfl) rfl rfl rfl (by omega) rfl rfl rfl ?_|refine sq 8 rfl ?_|refine BN ?_|fail)
    refine VC.le (σ':=AN [(0,AD (acs A)),(1,AD (sis sil)),(2,AI slot),(7,.c (.row 107 (XD A L k j).length)),(8,AI k),(9,AI (j:Int))] [(107,.row 142 15 (rowOf Rs.enc (XD A L k j)))]) ?_ ?_
    ·rw[show(XD A L k j).length=L.length by simp[XD]];exact Al
    have hgl:(XD A L k j).length=A.length:=by simp[XD,hL]
    by_cases c1:(A.getD j default).target=k
    ·have g1:decide ((A.getD j default).target=(k:Int))=true:=Aju c1;cases c2:Ei sil (k:Int) (j:Int) slot with
     |true=>
      rw[Akc ⟨c1,c2⟩] at hres;rw[c2] at hr2
      repeat'(first|refine Ad ?_|refine Aa (hr2) ?_|refine A5 ?_|refine AS ?_|refine AY ?_|fail)
      refine BU (k+1) ?_;rw[hres2,hgl,hres];exact Al
     |false=>
      rw[Akb (fun h=>by rw[c2] at h;cases h.2)] at hres;rw[c2] at hr2
      repeat'(first|refine Ad ?_|refine Aa (hr2) ?_|fail)
      refine BU (k+1) ?_;rw[hres2,hgl,hres];exact Al
    ·have g1:decide ((A.getD j default).target=(k:Int))=false:=Ajv c1;rw[Akb (fun h=>c1 h.1)] at hres
     repeat'(first|refine Ad ?_|fail)
     refine BU (k+1) ?_;rw[hres2,hgl,hres];exact Al
  ·have hd:=CM k A.length;rw[show k=A.length by omega] at hL ⊢;have hd:=Cc ((A.length:Int)<(A.length:Int))
   repeat'(first|refine Ad ?_|fail)
   exact Ag (Cu (l:=[(6,AD (rss (UX A sil slot A.length)))]) (b:=[]) (fun n=>n) [107] hS) CV
end Go.Proofs.M
namespace Go.Proofs.M
open Go Go.Sx Go.Proofs Go.Proofs.T Go.Proofs.Q
theorem Sl {X:List Wk} {j:Nat} (h:j<X.length):(X.map (·.ac)).getD j default=(X.getD j default).ac:=by
 simp[Ajt,h]
theorem Agq {X:List Wk} {j:Nat} (h:j<X.length):(X.map (·.rs)).getD j default=(X.getD j default).rs:=by
 simp[Ajt,h]
theorem AbI {X:List Wk} {sil:List Si} {slot:Int} (hn:∀j,j<X.length->(X.getD j default).node=j) {i:Nat} (hi:i<X.length):
  JS (X.map (·.ac)) sil slot i=match Eu sil slot X i with
   |some j=>(j:Int)
   |none=>-1:=by
 unfold JS Eu;rw[Sl hi];by_cases h2:(X.getD i default).ac.kind=2
 ·rw[Akb (fun h=>h h2),Akb (fun h=>h h2)];have e:E6 (X.map (·.ac)) sil slot i (X.map (·.ac)).length=BH sil slot X i:=by
   unfold E6 BH;rw[AjK];refine AkY fun j hj=>?_
   have hj:=Aj2.1 hj;unfold AcG;rw[Sl hj,Sl hi,hn j hj,hn i hi];by_cases hji:j=i
   ·subst hji;rw[Ajv (show ¬(X.getD j default).ac.kind=1 by omega)];simp
   ·rw[Aju hji,AkZ]
  rw[e];unfold Abp
  split<;>split<;>simp_all
 ·rw[Akc h2,Akc h2]
theorem Ma {X:List Wk} {sil:List Si} {slot:Int} (hn:∀j,j<X.length->(X.getD j default).node=j) (hz:∀j,j<X.length->(X.getD j default).rs=zRs):
  ∀k,k<=X.length->UX (X.map (·.ac)) sil slot k=(Dc sil slot X k).map (·.rs)
 |0,_=>by
  show List.replicate (X.map (·.ac)).length zRs=X.map (·.rs);refine(List.eq_replicate_iff.2 ⟨by simp,fun b hb=>?_⟩).symm;obtain⟨w,hw,rfl⟩:=Aj5.1 hb;obtain⟨j,hj,rfl⟩:=CI hw;exact hz j hj
 |k+1,hk=>by
  obtain⟨hs,hat⟩:=My sil slot X k (by omega);have hlen:=hs.len;have hh:Eu sil slot (Dc sil slot X k) k=Eu sil slot X k:=by
   unfold Eu;rw[hs.Yb sil slot k,(hs.at' k).1]
  show Aea (X.map (·.ac)) sil slot (UX (X.map (·.ac)) sil slot k) k=(Cv sil slot (Dc sil slot X k) k).map (·.rs);rw[Ma hn hz k (by omega),IU,hh];unfold Aea;rw[AbI hn (show k<X.length by omega)];have hY:∀j,((Dc sil slot X k).getD j default).ac=(X.getD j default).ac/\((Dc sil slot X k).getD j default).node=(X.getD j default).node:=hs.at';have hatk:=hat k (by omega);generalize Dc sil slot X k=Y at *;cases hr:Eu sil slot X k with
  |none=>
   dsimp only;rw[Akc (by omega)]
  |some q=>
   obtain⟨a1,a2,a3,a4⟩:=Ji hr;dsimp only;rw[Akb (by omega),Ale,Sl a2];have hk0:(Y.getD k default).rs=zRs:=by
    rw[hatk];show rsK sil slot X k k=zRs;unfold rsK;rw[Akc a1,Akb (by omega)];exact hz k (by omega)
   have hg:XD (X.map (·.ac)) (Y.map (·.rs)) k q=(Y.set k {Y.getD k default with rs:=ZE (PV (Y.getD q default).ac)}).map (·.rs):=by
    rw[List.map_set];unfold XD;rw[Agq (by omega),hk0,Sl a2,(hY q).1]
    rfl
   unfold DY;rw[(hY q).1,(hY q).2,(hY k).2,hn k (by omega),hn q a2];by_cases c:(X.getD q default).ac.target=(k:Int)/\Ei sil (k:Int) (q:Int) slot=true
   ·rw[Akc c,Akc c,hg];unfold AiF;rw[(hY q).1];have hq:q<(Y.set k {Y.getD k default with rs:=ZE (PV (X.getD q default).ac)}).length:=by rw[AjJ];omega
    rw[Agq hq,List.map_set (l:=Y.set k _)]
    congr 1
    have e:(Y.set k {Y.getD k default with rs:=ZE (PV (X.getD q default).ac)}).getD q default=Y.getD q default:=by
     rw[AcZ (by omega),Akb a4]
    rw[e]
   ·rw[Akb c,Akb c,hg,(hY q).1]
theorem Ml (m:Me) (loads:List Ld) {j:Nat} (h:j<(Fh m loads).length):((Fh m loads).getD j default).node=j/\((Fh m loads).getD j default).rs=zRs:=by
 rw[Ib] at h;rw[HI m loads h];exact⟨rfl,rfl⟩
def acM (m:Me) (loads:List Ld):List Ac:=(List.range m.nodes.length).map fun i=>(wk1 m loads i).ac
theorem Ahg (m:Me) (loads:List Ld):acM m loads=(Fh m loads).map (·.ac):=by
 rw[Mm,AkO];rfl
theorem Ad9 (m:Me) (loads:List Ld) (sil:List Si):UX (acM m loads) sil m.slot m.nodes.length=(List.range m.nodes.length).map fun i=>(wk2 m loads sil i).rs:=by
 have hl:=Ib m loads;rw[Ahg,Ma (fun j h=>(Ml m loads h).1) (fun j h=>(Ml m loads h).2) m.nodes.length (by omega)];show(Hk m loads sil).map (·.rs)=_;rw[QP,AkO];rfl
end Go.Proofs.M
namespace Go.Proofs.M
open Go Go.Sx Go.Proofs Go.Proofs.T Go.Proofs.Q
open Go.Proofs.P (Nb nbs Rk rkA rkErr checkNb hearM countM forgetM select')
open Go.Proofs.R (startM advM)
def OP (w:Wk):Prop:=((w.up.some=true/\w.up.BM=3)↔(w.rs.heard=true/\w.rs.BM=3))/\(w.up.some=true->w.up.source=w.rs.source/\w.up.epoch=w.rs.epoch/\w.up.rank=w.rs.rank)
theorem AhK {w:Wk} (h1:w.up.some=false) (h2:¬(w.rs.heard=true/\w.rs.BM=3)):OP w:=
 ⟨⟨fun h=>(by rw[h1] at h;cases h.1),fun h=>absurd h h2⟩,fun h=>(by rw[h1] at h;cases h)⟩
theorem Zt {s:Sta} {f:Fr} (h:f.kind=3->ML f s.tb.node=true):((BE s f).2.some=true/\(BE s f).2.BM=3↔f.kind=3)/\((BE s f).2.some=true->(BE s f).2.source=f.source/\(BE s f).2.epoch=f.epoch/\(BE s f).2.rank=f.rank):=by
 unfold BE
 split
 ·rename_i hc;refine⟨⟨fun hh=>(by cases hh.1),fun h3=>?_⟩,fun hh=>(by cases hh)⟩;rcases hc with hc|hc
  ·rw[h h3] at hc;cases hc
  ·omega
 ·split
  ·rename_i h1;exact⟨⟨fun hh=>hh.2,fun h3=>⟨rfl,h3⟩⟩,fun _=>⟨rfl,rfl,rfl⟩⟩
  ·split
   ·exact⟨⟨fun hh=>hh.2,fun h3=>⟨rfl,h3⟩⟩,fun _=>⟨rfl,rfl,rfl⟩⟩
   ·exact⟨⟨fun hh=>hh.2,fun h3=>⟨rfl,h3⟩⟩,fun _=>⟨rfl,rfl,rfl⟩⟩
theorem Ada {m:Me} {loads:List Ld} {sil:List Si} {T:Tb} (hn:m.nodes.length<=32) (hs:0<=m.slot/\m.slot<=109951162) (h:∀i,i<m.nodes.length->RN m.nodes.length T i (m.nodes.getD i default)) {i:Nat} (hi:i<m.nodes.length):
  OP (Dh m.slot (wk2 m loads sil i)):=by
 have hp:=Yy (loads:=loads) (h i hi) hs;have hk2:(wk2 m loads sil i).rs.heard=true->(wk1 m loads i).ac.kind=2:=fun hh=>by
  obtain⟨_,_,_,_,h2⟩:=Lf hi hh;exact h2
 have hw1:=(P1 (loads:=loads) hn hs hi (h i hi)).1;obtain⟨e,_⟩:=Ly (s:=(wk2 m loads sil i).nd.st) (slot:=m.slot) (wk2 m loads sil i).rs hw1.st hs;unfold Dh;by_cases hb:(wk2 m loads sil i).bc=true
 ·rw[Akc hb];refine AhK rfl fun hh=>?_
  have h2:=hk2 hh.1;have hb':(DS m.slot m.turns (Np m loads i)).2.2=true:=hb;have h2':(DS m.slot m.turns (Np m loads i)).2.1.kind=2:=h2;unfold DS at hb' h2'
  split at hb'
  ·rename_i hc;rw[Akc hc] at h2';have:(1:Int)=2:=h2';omega
  ·cases hb'
 ·rw[Akb hb,e,Akc rfl];have hb':¬(DS m.slot m.turns (Np m loads i)).2.2=true:=hb;have hac:(wk1 m loads i).ac=CA (wk2 m loads sil i).nd.st m.slot (atM (wk2 m loads sil i).nd.st.tb m.slot).1:=by
   show(DS m.slot m.turns (Np m loads i)).2.1=CA (DS m.slot m.turns (Np m loads i)).1.st m.slot (atM (DS m.slot m.turns (Np m loads i)).1.st.tb m.slot).1;unfold DS at hb' ⊢
   split
   ·rename_i hc;rw[Akc hc] at hb';exact absurd rfl hb'
   ·dsimp only;unfold Hs;rw[Akb (by have:=hp.st;omega),Akb (by omega)]
  rw[hac] at hk2;have hrs:(wk2 m loads sil i).rs.heard=true->(wk2 m loads sil i).rs.BM=3->ML (IH (wk2 m loads sil i).rs) (wk2 m loads sil i).nd.st.tb.node=true:=fun hh h3=>by
   obtain⟨j,hj,k1,ef,h2⟩:=Lf hi hh;have hj1:(DS m.slot m.turns (Np m loads j)).2.1.kind=1:=k1;obtain⟨a1,a2,a3,a4⟩:=VN (turns:=m.turns) (Yy (loads:=loads) (h j hj) hs) (by omega) hs hj1;have h3':(DS m.slot m.turns (Np m loads j)).2.1.BM=3:=by
    have:=congrArg Fr.kind ef;exact(show _=(wk2 m loads sil i).rs.BM from this.symm).trans h3
   obtain⟨b1,_⟩:=a4 (a3.1 h3');have ef':IH (wk2 m loads sil i).rs=PV (DS m.slot m.turns (Np m loads j)).2.1:=ef;have hne:i≠j:=fun hij=>by
    subst hij;have:(wk1 m loads i).ac.kind=1:=hj1;omega
   rw[ef',show(wk2 m loads sil i).nd.st.tb.node=(i:Int) from hw1.nd];unfold ML;rw[a2,show(PV (DS m.slot m.turns (Np m loads j)).2.1).target=-1 from b1,show(PV (DS m.slot m.turns (Np m loads j)).2.1).source=(j:Int) from a1];rw[Aju (show 0<=(i:Int)/\(i:Int)<=31/\((-1:Int)=i\/(-1:Int)=-1/\(j:Int)≠i) from⟨by omega,by omega,.inr ⟨rfl,by omega⟩⟩)]
   rfl
  have hrs2:(wk2 m loads sil i).rs.heard=true->(wk2 m loads sil i).rs.BM=3->ML (IH (wk2 m loads sil i).rs) (Ju (wk2 m loads sil i).nd.st (atM (wk2 m loads sil i).nd.st.tb m.slot).1).tb.node=true:=fun hh h3=>by
   have:(Ju (wk2 m loads sil i).nd.st (atM (wk2 m loads sil i).nd.st.tb m.slot).1).tb=(wk2 m loads sil i).nd.st.tb:=by unfold Ju;split<;>rfl
   rw[this];exact hrs hh h3
  generalize wk2 m loads sil i=w at *;unfold OP;dsimp only;show((Cp w.nd.st m.slot (atM w.nd.st.tb m.slot).1 w.rs).2.some=true/\(Cp w.nd.st m.slot (atM w.nd.st.tb m.slot).1 w.rs).2.BM=3↔w.rs.heard=true/\w.rs.BM=3)/\((Cp w.nd.st m.slot (atM w.nd.st.tb m.slot).1 w.rs).2.some=true->_);generalize atM w.nd.st.tb m.slot=c at *;have hno:(CA w.nd.st m.slot c.1).kind≠2->¬(w.rs.heard=true/\w.rs.BM=3):=fun hk hh=>hk (hk2 hh.1)
  unfold Cp
  split
  ·rename_i h1;have:=hno (by omega);exact⟨⟨fun hh=>(by cases hh.1),fun hh=>absurd hh this⟩,fun hh=>(by cases hh)⟩
  ·split
   ·rename_i h1;have:=hno (by omega);exact⟨⟨fun hh=>(by cases hh.1),fun hh=>absurd hh this⟩,fun hh=>(by cases hh)⟩
   ·split
    ·rename_i h2;by_cases hh:w.rs.heard=true
     ·rw[Akc hh];obtain⟨g1,g2⟩:=Zt (s:=Ju w.nd.st c.1) (f:=IH w.rs) (hrs2 hh);exact⟨⟨fun x=>⟨hh,g1.1 x⟩,fun x=>g1.2 x.2⟩,g2⟩
     ·rw[Akb hh];exact⟨⟨fun x=>(by cases x.1),fun x=>absurd x.1 hh⟩,fun x=>(by cases x)⟩
    ·rename_i h2;have:=hno h2;exact⟨⟨fun hh=>(by cases hh.1),fun hh=>absurd hh this⟩,fun hh=>(by cases hh)⟩
end Go.Proofs.M
namespace Go.Proofs
open Go Go.Sx Go.Proofs.T Go.Proofs.Q
attribute [local irreducible] VR VC thenQ blockQ retL
theorem QR {A:List Int} {k:Nat} (h:k<=A.length):((List.range (A.length-k)).map fun i=>(List.range 1).map fun j=>C.d (((fun x:Int=>[D.int .i64 x]) (A.getD (k+i) default)).getD j .Df))=rowOf FT.enc (A.drop k):=by
 have:=Dr (enc:=FT.enc) (sz:=1) (fun _=>rfl) (l:=A.drop k);rw[<-this,AjG];refine AkS fun i hi=>?_
 have e:(A.drop k).getD i default=A.getD (k+i) default:=by
  rw[Ajt,AkI,<-Ajt]
 rw[e]
abbrev M6 (l:List Hd):List (List C):=List.map (Prod.snd:Nat×List C->List C) []++(List.range l.length).map fun i=>(List.range 5).map fun j=>C.d ((Hd.enc (l.getD i default)).getD j .Df)
theorem KS (l:List Hd):M6 l=rowOf Hd.enc l:=(Akp _).trans (Dr (enc:=Hd.enc) (sz:=5) fun _=>rfl)
theorem RV {l:List Hd} {i:Nat} (hi:i<l.length):(M6 l)[i]?=some ((Hd.enc (l.getD i default)).map C.d):=by rw[KS,Cr hi]
theorem RU {l:List Hd} {i:Nat} {h:Hd} {c:List C} (hc:c=h.cs):(M6 l).set i c=rowOf Hd.enc (l.set i h):=by
 rw[KS,hc];exact CC rfl
theorem To (s:Sta) (slot:Int) (r:Rs):Ak 100 [stA s,AI slot,rsA r] (.tup [stA (ED s slot r).1,upA (ED s slot r).2.1,AI (ED s slot r).2.2]):=by
 have hac:=Kn s slot;refine Ao func100 ntmps100 results100 fun E hS=>?_
 refine AG ?_;by_cases hck:AU s=0
 ·by_cases hs:0<=slot/\slot<=109951162
  ·have e:ED s slot r=((Cp s slot (atM s.tb slot).1 r).1,(Cp s slot (atM s.tb slot).1 r).2,0):=by rw[ED,Akb (by omega),Akb (by omega)]
   have ea:Hs s slot=(CA s slot (atM s.tb slot).1,0):=by rw[Hs,Akb (by omega),Akb (by omega)]
   have hpl:=IQ s slot hck;have hno:=@Aap s.tb slot;obtain⟨_,_,_,hH,hsn,_,hrb⟩:=Ba hck;have hrb:=EI hrb;have hpw:=(Aei s.back).resolve_left (by omega) |>.resolve_left (by omega);rw[ea] at hac;rw[e];generalize atM s.tb slot=ac at hac hpl hno ⊢;obtain⟨c,ok⟩:=ac;dsimp only at hac hpl hno ⊢;have hXa:(Tv s slot c ok).a=CA s slot c:=by
    cases ok with
    |true=>rfl
    |false=>rw[hno rfl,PU];rfl
   have hok:(CA s slot c).kind≠0->Tv s slot c ok=⟨CA s slot c,c,(G0 s c).1,(G0 s c).2⟩:=fun h=>by
    cases ok with
    |true=>rfl
    |false=>rw[hno rfl,PU] at h;exact absurd rfl h
   generalize Tv s slot c ok=X at hpl hXa hok
   repeat'(first|refine AJ ?_|refine Aa (hac) ?_|refine Aa (hpl) ?_|refine sq 5 rfl ?_|fail)
   refine Gi [(3,.c (.ptr 3 0)),(5,.c (.ptr 5 0)),(6,.c (.ptr 6 0)),(7,.c (.ptr 7 0)),(11,.c (.ptr 11 0))] [(3,.box s.cs),(5,.box r.cs),(6,.box noS.cs),(7,.box zUp.cs),(11,.box X.cs)] ?_;by_cases k1:(CA s slot c).kind=1
   ·have hX:=hok (by omega);have d1:decide (X.a.kind=1)=true:=Aju (by rw[hXa];exact k1);by_cases k2:(CA s slot c).BM=1
    ·obtain⟨kc,ksd,i,hf,hti,hna,ha⟩:=LF k1 k2;obtain⟨hi,hfl,_⟩:=Bs hf;have hfl:=AjT hfl;have dsm:X.some=false:=by rw[hX,Z3 kc]
     have hXc:X.c=c:=by rw[hX]
     cases hra:r.AH with
     |false=>
      have e2:Cp s slot c r=(s,zUp):=by rw[Cp,Akc ⟨k1,k2⟩,Akb (by rw[hra];simp)]
      rw[e2]
      repeat'(first|refine Ad ?_|fail)
      exact Ag (Al (l:=[(6,.c (.ptr 6 0)),(7,.c (.ptr 7 0)),(8,AI 0)]) (b:=[(6,.box s.cs),(7,.box zUp.cs)])) AE
     |true=>
      have e2:Cp s slot c r=(Ack s (CA s slot c),zUp):=by rw[Cp,Akc ⟨k1,k2⟩,Akc hra]
      have hix:=CP s c.BR;rw[hf] at hix;have hix':Ak 148 [stA s,AI c.BR] (AI (i:Nat)):=hix;rw[<-hXc] at hix';have hHl:=(Ds hH).2 i hi;have hhl:=(Ds hH).1;have hrg:=(DE hHl.1).2.2.2.2.2.2;have hal:=GQ hrg;have hri:OA id (s.held.getD i default).AH:=L6 fun j hj h0=>(Gq hrg j hj).2.2 h0
      have hnn:∀j,j<(s.held.getD i default).AH.length->¬(s.held.getD i default).AH.getD j default=X.c.peer:=fun j hj he=>by
       have:=(AjN.1 hna) _ (BS hj);rw[he,hXc] at this;simp at this
      have hfw:(CA s slot c).BR=c.BR:=by rw[ha];exact hfl
      have htg:(CA s slot c).target=X.c.peer:=by rw[ha,hXc];rfl
      have e1:Ack s (CA s slot c)={s with held:=s.held.set i {s.held.getD i default with AH:=GI id (s.held.getD i default).AH X.c.peer}}:=by
       rw[Ack,hfw,hf,htg]
      rw[e2,e1]
      repeat'(first|refine Af ?_|refine Aa (hix') ?_|fail)
      refine VC.le (le_nil (t:=14) (nm:=45) (T:=3) (sz:=1) rfl rfl) ?_;generalize hA:(s.held.getD i default).AH=A at hal hri hnn;refine Ax (ι:=Nat) (fun k=>AN [(3,.c (.ptr 3 0)),(5,.c (.ptr 5 0)),(6,.c (.ptr 6 0)),(7,.c (.ptr 7 0)),(11,.c (.ptr 11 0)),(12,AI i),(13,.c (.ptr 13 0)),(14,.c (.row 45 (A.take k).length)),(15,AI k)]
       [(3,.box s.cs),(5,.box r.cs),(6,.box noS.cs),(7,.box zUp.cs),(11,.box X.cs),(13,.box (s.held.getD i default).cs),(45,.row 3 1 (rowOf FT.enc (A.take k)))])
       (fun k=>k<=A.length/\∀a,a<k->A.getD a default<X.c.peer) (fun k=>A.length-k) 0 ⟨Ake _,fun i hi=>absurd hi (Aj9 _)⟩ ?_ ?_
      ·exact Al
      ·intro k hk;subst hA;have htl:((s.held.getD i default).AH.take k).length<=32:=by rw[AjD];omega
       rcases Akf k (s.held.getD i default).AH.length with hlt|hge
       ·have dlt:=Es ((k:Int)<((s.held.getD i default).AH.length:Int));by_cases hfl2:(s.held.getD i default).AH.getD k default<X.c.peer
        ·have d2:=Aju hfl2
         repeat'(first|refine Af ?_|refine Ap ?_|fail)
         refine⟨k+1,⟨by omega,fun a ha=>?_⟩,by omega,?_⟩
         ·by_cases hak:a<k
          ·exact hk.2 a hak
          ·rw[show a=k by omega];exact hfl2
         ·rw[Go.Sx.Bq hlt];exact BF (fun n=>if n=45 then 81 else n)
        ·have d2:=Ajv hfl2;have hup:GI id (s.held.getD i default).AH X.c.peer=(s.held.getD i default).AH.take k++X.c.peer :: (s.held.getD i default).AH.drop k:=by
          refine OO hk.1 hk.2 fun a ha hl=>?_
          rcases Akf k a with h3|h3
          ·have h4:=hri k a h3 hl;simp only[id] at h4 ⊢;omega
          ·have h4:=hnn k hlt;rw[show a=k by omega];simp only[id];omega
         have hNl:(GI id (s.held.getD i default).AH X.c.peer).length=((s.held.getD i default).AH.take k).length+1+((s.held.getD i default).AH.length-k):=by
          rw[hup,Ajy,Akx,AjG];omega
         repeat'(first|refine AJ ?_|refine Ap ?_|refine FB (gk rfl) rfl rfl rfl (by first|exact .no|exact .int rfl rfl|exact .nat rfl (by omega)) (by first|exact .no|exact .int rfl rfl|exact .nat rfl (by omega)) (by omega) (by omega) rfl ?_|refine sq 17 rfl ?_|fail)
         refine VC.le (σ':=AN [(3,.c (.ptr 3 0)),(5,.c (.ptr 5 0)),(6,.c (.ptr 6 0)),(7,.c (.ptr 7 0)),(11,.c (.ptr 11 0)),(12,AI i),(13,.c (.ptr 13 0)),(14,.c (.row 46 (GI id (s.held.getD i default).AH X.c.peer).length))]
          [(3,.box s.cs),(5,.box r.cs),(6,.box noS.cs),(7,.box zUp.cs),(11,.box X.cs),(13,.box (s.held.getD i default).cs),(46,.row 3 1 (rowOf FT.enc (GI id (s.held.getD i default).AH X.c.peer)))]) ?_ ?_
         ·rw[hNl];refine A0 (fun n=>if n=46 then 92 else n) ?_ ?_ rfl (by first|rfl|(simp only[wfL,wfs,AA,Az];rfl))
          all_goals repeat'(first|exact tt0|refine⟨⟨_,rfl,?_⟩,?_⟩|exact .c .d|exact .c (.ptr rfl)|exact .c (.row rfl rfl)|exact .FA rfl rfl|fail)
          refine .CJ ?_ Ai;rw[hup,AF];refine(AjP _ _ _).trans (congrArg (fun z=>rowOf FT.enc ((s.held.getD i default).AH.take k)++z) ?_);exact congrArg (fun z=>[C.d (D.int .i64 X.c.peer)] :: z) (QR hk.1)
         refine VC.le (σ':=AN [(3,.c (.ptr 3 0)),(5,.c (.ptr 5 0)),(6,.c (.ptr 6 0)),(7,.c (.ptr 7 0)),(11,.c (.ptr 11 0)),(12,AI i),(13,.c (.ptr 13 0)),(14,AD (ints (GI id (s.held.getD i default).AH X.c.peer)))]
          [(3,.box s.cs),(5,.box r.cs),(6,.box noS.cs),(7,.box zUp.cs),(11,.box X.cs),(13,.box (s.held.getD i default).cs)]) ?_ ?_
         ·exact Cu (fun n=>n) [46] hS
         repeat'(first|refine Ad ?_|refine Du (gk rfl) rfl rfl rfl (RV hi) rfl rfl rfl ?_|refine C9 (gk rfl) rfl rfl rfl rfl rfl (by omega) (by first|rfl|exact An.symm|(simp only[lns]<;>omega)) rfl ?_|refine Ap ?_|fail)
         refine GR (σ1:=AN [(6,.c (.ptr 6 0)),(7,.c (.ptr 7 0)),(8,AI 0)] [(6,.box (s.csR (.row 101 (0+s.held.length)) (.d (sns s.seen)))),(7,.box zUp.cs),(101,.row 110 5 (rowOf Hd.enc (s.held.set i {s.held.getD i default with AH:=GI id (s.held.getD i default).AH X.c.peer})))]) ?_ ?_
         ·refine A0 (fun n=>if n=101 then 98 else n) ?_ ?_ rfl (by first|rfl|(simp only[wfL,wfs,AA,Az];rfl))
          all_goals repeat'(first|exact tt0|refine⟨⟨_,rfl,?_⟩,?_⟩|exact .c .d|exact .c (.ptr rfl)|exact .FA rfl rfl|refine .box ?_|exact .nil|refine .cons ?_ ?_|exact .d|exact .row rfl rfl|fail)
          exact .CJ (RU rfl) Ai
         exact Ag (Cu (l:=[(6,.c (.ptr 6 0)),(7,.c (.ptr 7 0)),(8,AI 0)]) (b:=[(6,.box (Sta.cs {s with held:=s.held.set i {s.held.getD i default with AH:=GI id (s.held.getD i default).AH X.c.peer}})),(7,.box zUp.cs)]) (fun n=>n) [101] hS) AE
       ·have dlt:=Cc ((k:Int)<((s.held.getD i default).AH.length:Int));have hup:GI id (s.held.getD i default).AH X.c.peer=(s.held.getD i default).AH.take k++X.c.peer :: (s.held.getD i default).AH.drop k:=by
         refine OO hk.1 hk.2 fun a ha hl=>?_
         omega
        have hNl:(GI id (s.held.getD i default).AH X.c.peer).length=((s.held.getD i default).AH.take k).length+1+((s.held.getD i default).AH.length-k):=by
         rw[hup,Ajy,Akx,AjG];omega
        repeat'(first|refine AJ ?_|refine Ap ?_|refine FB (gk rfl) rfl rfl rfl (by first|exact .no|exact .int rfl rfl|exact .nat rfl (by omega)) (by first|exact .no|exact .int rfl rfl|exact .nat rfl (by omega)) (by omega) (by omega) rfl ?_|refine sq 17 rfl ?_|fail)
        refine VC.le (σ':=AN [(3,.c (.ptr 3 0)),(5,.c (.ptr 5 0)),(6,.c (.ptr 6 0)),(7,.c (.ptr 7 0)),(11,.c (.ptr 11 0)),(12,AI i),(13,.c (.ptr 13 0)),(14,.c (.row 46 (GI id (s.held.getD i default).AH X.c.peer).length))]
         [(3,.box s.cs),(5,.box r.cs),(6,.box noS.cs),(7,.box zUp.cs),(11,.box X.cs),(13,.box (s.held.getD i default).cs),(46,.row 3 1 (rowOf FT.enc (GI id (s.held.getD i default).AH X.c.peer)))]) ?_ ?_
        ·rw[hNl];refine A0 (fun n=>if n=46 then 92 else n) ?_ ?_ rfl (by first|rfl|(simp only[wfL,wfs,AA,Az];rfl))
         all_goals repeat'(first|exact tt0|refine⟨⟨_,rfl,?_⟩,?_⟩|exact .c .d|exact .c (.ptr rfl)|exact .c (.row rfl rfl)|exact .FA rfl rfl|fail)
         refine .CJ ?_ Ai;rw[hup,AF];refine(AjP _ _ _).trans (congrArg (fun z=>rowOf FT.enc ((s.held.getD i default).AH.take k)++z) ?_);exact congrArg (fun z=>[C.d (D.int .i64 X.c.peer)] :: z) (QR hk.1)
        refine VC.le (σ':=AN [(3,.c (.ptr 3 0)),(5,.c (.ptr 5 0)),(6,.c (.ptr 6 0)),(7,.c (.ptr 7 0)),(11,.c (.ptr 11 0)),(12,AI i),(13,.c (.ptr 13 0)),(14,AD (ints (GI id (s.held.getD i default).AH X.c.peer)))]
         [(3,.box s.cs),(5,.box r.cs),(6,.box noS.cs),(7,.box zUp.cs),(11,.box X.cs),(13,.box (s.held.getD i default).cs)]) ?_ ?_
        ·exact Cu (fun n=>n) [46] hS
        repeat'(first|refine Ad ?_|refine Du (gk rfl) rfl rfl rfl (RV hi) rfl rfl rfl ?_|refine C9 (gk rfl) rfl rfl rfl rfl rfl (by omega) (by first|rfl|exact An.symm|(simp only[lns]<;>omega)) rfl ?_|refine Ap ?_|fail)
        refine GR (σ1:=AN [(6,.c (.ptr 6 0)),(7,.c (.ptr 7 0)),(8,AI 0)] [(6,.box (s.csR (.row 101 (0+s.held.length)) (.d (sns s.seen)))),(7,.box zUp.cs),(101,.row 110 5 (rowOf Hd.enc (s.held.set i {s.held.getD i default with AH:=GI id (s.held.getD i default).AH X.c.peer})))]) ?_ ?_
        ·refine A0 (fun n=>if n=101 then 98 else n) ?_ ?_ rfl (by first|rfl|(simp only[wfL,wfs,AA,Az];rfl))
         all_goals repeat'(first|exact tt0|refine⟨⟨_,rfl,?_⟩,?_⟩|exact .c .d|exact .c (.ptr rfl)|exact .FA rfl rfl|refine .box ?_|exact .nil|refine .cons ?_ ?_|exact .d|exact .row rfl rfl|fail)
         exact .CJ (RU rfl) Ai
        exact Ag (Cu (l:=[(6,.c (.ptr 6 0)),(7,.c (.ptr 7 0)),(8,AI 0)]) (b:=[(6,.box (Sta.cs {s with held:=s.held.set i {s.held.getD i default with AH:=GI id (s.held.getD i default).AH X.c.peer}})),(7,.box zUp.cs)]) (fun n=>n) [101] hS) AE
    ·obtain⟨hp1,hp2,_,_⟩:=Uy hck k1 k2;have dsm:X.some=true:=by rw[hX,hp1]
     have e2:Cp s slot c r=(Cm s c r.AH,zUp):=by rw[Cp,Akb (fun h=>k2 h.2),Akc k1]
     have hXc:X.c=c:=by rw[hX]
     have hXp:X.p=BG s c:=by rw[hX,hp1]
     have hst:=Tk s X r.AH hck (by rw[hXp,hXc]) (by rw[hXp];exact Zk hp2);rw[hXc] at hst;rw[e2]
     repeat'(first|refine Ad ?_|refine Aa (hst) ?_|fail)
     exact Ag (Al (l:=[(6,.c (.ptr 6 0)),(7,.c (.ptr 7 0)),(8,AI 0)]) (b:=[(6,.box (Cm s c r.AH).cs),(7,.box zUp.cs)])) AE
   ·have d1:decide (X.a.kind=1)=false:=Ajv (by rw[hXa];exact k1);by_cases k3:(CA s slot c).kind=2
    ·have hX:=hok (by omega);have d3:decide (X.a.kind=2)=true:=Aju (by rw[hXa];exact k3);have hsm:X.some=decide ((EF s).isSome=true/\c.kind=3):=by rw[hX];exact(Afc k3).1
     have e2:Cp s slot c r=if r.heard=true then BE (Ju s c) (IH r) else(Ju s c,zUp):=by rw[Cp,Akb (fun h=>k1 h.1),Akb k1,Akc k3]
     rw[e2];by_cases hw:(EF s).isSome=true/\c.kind=3
     ·have dsm:X.some=true:=by rw[hsm];exact Aju hw
      have hw':Ju s c={s with wait:=s.wait-1}:=Akc hw;rw[hw'];cases hh:r.heard with
      |false=>
       rw[Akb (by simp)]
       repeat'(first|refine Ad ?_|fail)
       exact Ag (Al (l:=[(6,.c (.ptr 6 0)),(7,.c (.ptr 7 0)),(8,AI 0)]) (b:=[(6,.box (Sta.cs {s with wait:=s.wait-1})),(7,.box zUp.cs)])) AE
      |true=>
       rw[Akc rfl]
       repeat'(first|refine Ad ?_|refine Aa (N4 {s with wait:=s.wait-1} (IH r) hsn) ?_|fail)
       exact Ag (Al (l:=[(6,.c (.ptr 6 0)),(7,.c (.ptr 7 0)),(8,AI 0)]) (b:=[(6,.box (BE {s with wait:=s.wait-1} (IH r)).1.cs),(7,.box (BE {s with wait:=s.wait-1} (IH r)).2.cs)])) AE
     ·have dsm:X.some=false:=by rw[hsm];exact Ajv hw
      have hw':Ju s c=s:=Akb hw;rw[hw'];cases hh:r.heard with
      |false=>
       rw[Akb (by simp)]
       repeat'(first|refine Ad ?_|fail)
       exact Ag (Al (l:=[(6,.c (.ptr 6 0)),(7,.c (.ptr 7 0)),(8,AI 0)]) (b:=[(6,.box s.cs),(7,.box zUp.cs)])) AE
      |true=>
       rw[Akc rfl]
       repeat'(first|refine Ad ?_|refine Aa (N4 s (IH r) hsn) ?_|fail)
       exact Ag (Al (l:=[(6,.c (.ptr 6 0)),(7,.c (.ptr 7 0)),(8,AI 0)]) (b:=[(6,.box (BE s (IH r)).1.cs),(7,.box (BE s (IH r)).2.cs)])) AE
    ·have d3:decide (X.a.kind=2)=false:=Ajv (by rw[hXa];exact k3);have e2:Cp s slot c r=(s,zUp):=by rw[Cp,Akb (fun h=>k1 h.1),Akb k1,Akb k3]
     rw[e2]
     repeat'(first|refine Ad ?_|fail)
     exact Ag (Al (l:=[(6,.c (.ptr 6 0)),(7,.c (.ptr 7 0)),(8,AI 0)]) (b:=[(6,.box s.cs),(7,.box zUp.cs)])) AE
  ·have e:ED s slot r=(noS,zUp,2):=by rw[ED,Akb (by omega),Akc (by omega)]
   have ea:Hs s slot=(zAc,2):=by rw[Hs,Akb (by omega),Akc (by omega)]
   rw[ea] at hac;rw[e]
   repeat'(first|refine Ad ?_|refine Aa (hac) ?_|fail)
   exact Ag (Al (l:=[(6,.c (.ptr 6 0)),(7,.c (.ptr 7 0)),(8,AI 2)]) (b:=[(6,.box noS.cs),(7,.box zUp.cs)])) AE
 ·have e:ED s slot r=(noS,zUp,1):=by rw[ED,Akc hck]
  have ea:Hs s slot=(zAc,1):=by rw[Hs,Akc hck]
  rw[ea] at hac;rw[e]
  repeat'(first|refine Ad ?_|refine Aa (hac) ?_|fail)
  exact Ag (Al (l:=[(6,.c (.ptr 6 0)),(7,.c (.ptr 7 0)),(8,AI 1)]) (b:=[(6,.box noS.cs),(7,.box zUp.cs)])) AE
end Go.Proofs
