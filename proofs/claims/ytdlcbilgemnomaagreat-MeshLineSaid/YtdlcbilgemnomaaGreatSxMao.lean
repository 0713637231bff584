/-
  What functions of the program hand back, and plain laws on that. No condition.
-/
import Derived.Test.YtdlcbilgemnomaaGreatSxMam
import Derived.Test.YtdlcbilgemnomaaGreatSxMan
set_option linter.unusedSimpArgs false
set_option linter.unusedVariables false
section
namespace Go.Proofs.M
open Go Go.Sx Go.Proofs Go.Proofs.T Go.Proofs.Q
set_option maxRecDepth 4000
attribute [local irreducible] VR VC thenQ blockQ retL
def Mz (i k:Nat):List Si:=if i=k\/i=k+1\/k=i+1 then[] else[⟨i,k,0,1099511627776⟩]
def T8 (i:Nat):Nat->List Si
 |0=>[]
 |k+1=>T8 i k++Mz i k
def PY (n:Nat):Nat->List Si
 |0=>[]
 |i+1=>PY n i++T8 i n
def Iu (n:Nat):List Si:=PY n n
theorem Ms (i:Nat):∀k,(T8 i k).length<=k
 |0=>Ag0 _
 |k+1=>by
  have:=Ms i k;show(T8 i k++Mz i k).length<=k+1;rw[Agn];have h:(Mz i k).length<=1:=by
   unfold Mz
   split<;>simp
  omega
theorem Jt {n:Nat} (hn:n<=100):∀i,(PY n i).length<=i*100
 |0=>Ag0 _
 |i+1=>by
  have:=Jt hn i;have h2:=Ms i n;show(PY n i++T8 i n).length<=(i+1)*100;rw[Agn];omega
set_option maxHeartbeats 2000000 in
theorem Xn (n:Nat) (hn:n<=100):FnS Tryz.prog 33 [AI (n:Int)] [] (AD (sis (Iu n))) []:=by
 refine fb Tryz.func33 (by kernel_rfl) rfl Tryz.ntmps33 Tryz.results33 rfl rfl rfl rfl fun E hS=>?_
 refine AJ ?_
 repeat'(first|refine sC ?_|refine Ak rfl (by exact tt0) ?_|fail)
 refine VC.le (le_nil (t:=3) (nm:=103) (T:=98) (sz:=4) rfl rfl) ?_;refine AK (ι:=Nat) (fun i=>AS [(0,AI n),(3,.c (.row 103 (PY n i).length)),(6,AI n),(7,AI i)] [(103,.row 98 4 (rowOf Si.enc (PY n i)))]) (fun i=>i<=n) (fun i=>n-i) 0 (Ag1 _) ?_ ?_
 ·refine lg ?_ ?_ rfl (by rfl)
  all_goals repeat'(first|exact tt0|refine⟨⟨_,rfl,?_⟩,?_⟩|exact .c .d|exact .c (.row rfl rfl)|exact .Bc rfl Ag|fail)
 ·intro i hi;by_cases hc:i<n
  ·have hd:decide ((i:Int)<(n:Int))=true:=Agj (by omega);have hl0:=Jt hn i
   repeat'(first|refine sC ?_|refine Ak rfl (by exact tt0) ?_|(refine gD ?_;first|refine Ai rfl ?_|refine At rfl (by assumption) ?_)|fail)
   refine AK (ι:=Nat) (fun k=>AS [(0,AI n),(3,.c (.row 103 (PY n i++T8 i k).length)),(4,AI i),(6,AI n),(7,AI i),(10,AI n),(11,AI k)] [(103,.row 98 4 (rowOf Si.enc (PY n i++T8 i k)))]) (fun k=>k<=n) (fun k=>n-k) 0 (Ag1 _) ?_ ?_
   ·rw[show T8 i 0=[] from rfl,AgF];refine Am (fun n=>n) ?_ ?_ rfl (by(simp only[wfL,wfs,Ae,Ad];rfl))
    all_goals repeat'(first|exact tt0|refine⟨⟨_,rfl,?_⟩,?_⟩|exact .c .d|exact .c (.row rfl rfl)|exact .Bc rfl Ag|fail)
   ·intro k hk;by_cases hc2:k<n
    ·have hd2:decide ((k:Int)<(n:Int))=true:=Agj (by omega);have hl1:=Ms i k;have hl:(PY n i++T8 i k).length<=20000:=by rw[Agn];omega
     have e:PY n i++T8 i (k+1)=(PY n i++T8 i k)++Mz i k:=(AgE _ _ _).symm;by_cases e1:i=k
     ·have d1:decide ((i:Int)≠(k:Int))=false:=Agk (by omega);have er:Mz i k=[]:=AgZ (.inl e1);rw[er,AgF] at e
      repeat'(first|refine sC ?_|refine Ak rfl (by first|exact tt0|omega) ?_|refine Az rfl (by assumption) ?_|(refine gD ?_;first|refine Ai rfl ?_|refine Ah rfl ?_|refine At rfl (by assumption) ?_)|fail)
      refine⟨k+1,by omega,by omega,?_⟩;rw[e];refine Am (fun n=>n) ?_ ?_ rfl (by(simp only[wfL,wfs,Ae,Ad];rfl))
      all_goals repeat'(first|exact tt0|refine⟨⟨_,rfl,?_⟩,?_⟩|exact .c .d|exact .c (.row rfl rfl)|exact .Bc rfl Ag|fail)
     ·have d1:decide ((i:Int)≠(k:Int))=true:=Agj (by omega);by_cases e2:i=k+1
      ·have d2:decide ((i:Int)-(k:Int)≠1)=false:=Agk (by omega);have er:Mz i k=[]:=AgZ (.inr (.inl e2));rw[er,AgF] at e
       repeat'(first|refine sC ?_|refine Ak rfl (by first|exact tt0|omega) ?_|refine Az rfl (by assumption) ?_|(refine gD ?_;first|refine Ai rfl ?_|refine Ah rfl ?_|refine At rfl (by assumption) ?_)|fail)
       refine⟨k+1,by omega,by omega,?_⟩;rw[e];refine Am (fun n=>n) ?_ ?_ rfl (by(simp only[wfL,wfs,Ae,Ad];rfl))
       all_goals repeat'(first|exact tt0|refine⟨⟨_,rfl,?_⟩,?_⟩|exact .c .d|exact .c (.row rfl rfl)|exact .Bc rfl Ag|fail)
      ·have d2:decide ((i:Int)-(k:Int)≠1)=true:=Agj (by omega);by_cases e3:k=i+1
       ·have d3:decide ((k:Int)-(i:Int)≠1)=false:=Agk (by omega);have er:Mz i k=[]:=AgZ (.inr (.inr e3));rw[er,AgF] at e
        repeat'(first|refine sC ?_|refine Ak rfl (by first|exact tt0|omega) ?_|refine Az rfl (by assumption) ?_|(refine gD ?_;first|refine Ai rfl ?_|refine Ah rfl ?_|refine At rfl (by assumption) ?_)|fail)
        refine⟨k+1,by omega,by omega,?_⟩;rw[e];refine Am (fun n=>n) ?_ ?_ rfl (by(simp only[wfL,wfs,Ae,Ad];rfl))
        all_goals repeat'(first|exact tt0|refine⟨⟨_,rfl,?_⟩,?_⟩|exact .c .d|exact .c (.row rfl rfl)|exact .Bc rfl Ag|fail)
       ·have d3:decide ((k:Int)-(i:Int)≠1)=true:=Agj (by omega);have er:Mz i k=[⟨i,k,0,1099511627776⟩]:=AgY (by omega);rw[er] at e
        repeat'(first|refine sC ?_|refine Ak rfl (by first|exact tt0|omega) ?_|(refine gA ?_;first|refine Be (gk rfl) rfl rfl rfl (by exact Al.symm) (by exact .row rfl (by rfl)) rfl rfl rfl (by(try dsimp only);omega) rfl rfl ?_)|refine Az rfl (by assumption) ?_|(refine gD ?_;first|refine Ai rfl ?_|refine At rfl (by assumption) ?_)|fail)
        refine⟨k+1,by omega,by omega,?_⟩;rw[e,Agn];refine Am (fun n=>if n=103 then 34 else n) ?_ ?_ rfl (by(simp only[wfL,wfs,Ae,Ad];rfl))
        all_goals repeat'(first|exact tt0|refine⟨⟨_,rfl,?_⟩,?_⟩|exact .c .d|(refine .c (.row rfl ?_);((try dsimp only);first|(simp only[lns]<;>omega));done)|(refine .Bc ?_ Ag;simp only[AZ,AgE];rfl)|fail)
    ·have hd2:decide ((k:Int)<(n:Int))=false:=Agk (by omega);have hk1:k=n:=by omega
     have e:PY n (i+1)=PY n i++T8 i k:=by rw[hk1];rfl
     repeat'(first|refine sB ?_|refine Ak rfl (by first|exact tt0|omega) ?_|(refine gD ?_;first|refine Ah rfl ?_|refine At rfl (by assumption) ?_)|fail)
     refine⟨i+1,by omega,by omega,?_⟩;rw[e];refine Am (fun n=>n) ?_ ?_ rfl (by(simp only[wfL,wfs,Ae,Ad];rfl))
     all_goals repeat'(first|exact tt0|refine⟨⟨_,rfl,?_⟩,?_⟩|exact .c .d|exact .c (.row rfl rfl)|exact .Bc rfl Ag|fail)
  ·have hd:decide ((i:Int)<(n:Int))=false:=Agk (by omega);have hkl:i=n:=by omega
   subst hkl
   repeat'(first|refine sB ?_|refine Ak rfl (by exact tt0) ?_|(refine gD ?_;first|refine Ah rfl ?_|refine At rfl (by assumption) ?_)|fail)
   refine Ao (Bm (l:=[(2,AD (sis (Iu i)))]) (b:=[]) (fun n=>n) [103] hS ?_ ?_ rfl (by rfl)) (P1 Ab rfl rfl)
   all_goals repeat'(first|exact tt0|refine⟨⟨_,rfl,?_⟩,?_⟩|exact .c (.Cd (by(simp;done)) rfl rfl (fun _=>rfl))|fail)
end Go.Proofs.M
end
section
namespace Go.Proofs.M
open Go Go.Sx Go.Proofs Go.Proofs.T Go.Proofs.Q
open Go.Proofs.P (Nb nbs Rk rkA rkErr checkNb hearM countM forgetM select')
open Go.Proofs.R (startM advM)
def fcN (n:Nat) (k:Nat->Bool):Bool:=Nat.casesOn n (k 0) fun m=>k (m+1)
theorem YY (n:Nat) (k:Nat->Bool):fcN n k=k n:=by cases n<;>rfl
def fcI (i:Int) (k:Int->Bool):Bool:=Int.casesOn i (fun n=>fcN n fun m=>k (.ofNat m)) (fun n=>fcN n fun m=>k (.negSucc m))
theorem Fv (i:Int) (k:Int->Bool):fcI i k=k i:=by
 cases i with
 |ofNat n=>
  show fcN n (fun m=>k (.ofNat m))=_;rw[YY]
 |negSucc n=>
  show fcN n (fun m=>k (.negSucc m))=_;rw[YY]
def fcB (b:Bool) (k:Bool->Bool):Bool:=Bool.casesOn b (k false) (k true)
theorem Adr (b:Bool) (k:Bool->Bool):fcB b k=k b:=by cases b<;>rfl
def fcL {α:Type} (f:α->(α->Bool)->Bool):List α->(List α->Bool)->Bool
 |[],k=>k []
 |x :: l,k=>f x fun y=>fcL f l fun m=>k (y :: m)
theorem Hc {α:Type} {f:α->(α->Bool)->Bool} (hf:∀x k,f x k=k x):∀(l:List α) (k:List α->Bool),fcL f l k=k l
 |[],_=>rfl
 |x :: l,k=>by
  show f x (fun y=>fcL f l fun m=>k (y :: m))=_;rw[hf,Hc hf l]
def Ae0 (x:TC) (k:TC->Bool):Bool:=fcI x.slot fun a=>fcI x.offset fun b=>fcI x.kind fun c=>fcB x.send fun d=>fcI x.peer fun e=>fcI x.Cb fun f=>k ⟨a,b,c,d,e,f⟩
def Ae4 (x:Pk) (k:Pk->Bool):Bool:=fcI x.id fun a=>fcI x.to fun b=>fcI x.prio fun c=>fcI x.born fun d=>fcI x.AaB fun e=>k ⟨a,b,c,d,e,x.data⟩
def Ae1 (x:Sn) (k:Sn->Bool):Bool:=fcI x.node fun a=>fcI x.seq fun b=>k ⟨a,b⟩
def Ae7 (x:Hd) (k:Hd->Bool):Bool:=fcI x.Cb fun a=>fcI x.frame fun b=>fcI x.til fun c=>k ⟨a,b,c,x.data,x.AT⟩
def Ae5 (x:Nb) (k:Nb->Bool):Bool:=fcI x.node fun a=>fcI x.epoch fun b=>fcI x.rank fun c=>fcI x.slot fun d=>fcI x.att fun e=>fcI x.ack fun f=>k ⟨a,b,c,d,e,f⟩
def Ae2 (x:Rk) (k:Rk->Bool):Bool:=fcI x.node fun a=>fcI x.epoch fun b=>fcI x.parent fun c=>fcI x.heard fun d=>fcI x.rank fun e=>fcI x.least fun f=>k ⟨a,b,c,d,e,f⟩
def AeZ (x:Tb) (k:Tb->Bool):Bool:=fcI x.node fun a=>fcI x.len fun b=>fcL Ae0 x.cells fun c=>k ⟨a,b,c⟩
def Ae3 (x:Qu) (k:Qu->Bool):Bool:=fcI x.Bk fun a=>fcL Ae4 x.Af fun b=>k ⟨a,b⟩
def AaV (x:Sta) (k:Sta->Bool):Bool:=AeZ x.tb fun a=>Ae3 x.qu fun b=>fcL Ae7 x.held fun c=>fcL Ae1 x.seen fun d=>fcI x.list fun e=>fcI x.seq fun f=>fcI x.Bl fun g=>fcI x.tries fun h=>fcI x.back fun i=>fcI x.wait fun j=>fcI x.CY fun l=>k ⟨a,b,c,d,e,f,g,h,i,j,l⟩
def Ae6 (x:MN) (k:MN->Bool):Bool:=AaV x.st fun a=>Ae2 x.rk fun b=>fcL Ae5 x.nb fun c=>fcI x.next fun d=>k ⟨a,b,c,d⟩
def Ae8 (x:Ar) (k:Ar->Bool):Bool:=fcI x.origin fun a=>fcI x.id fun b=>fcI x.slot fun c=>k ⟨a,b,c⟩
def Aa1 (x:Me) (k:Me->Bool):Bool:=fcL Ae6 x.nodes fun a=>fcI x.slot fun b=>fcI x.turns fun c=>fcL Ae8 x.arr fun d=>k ⟨a,b,c,d⟩
theorem AaU (x:TC) (k:TC->Bool):Ae0 x k=k x:=by simp only[Ae0,Fv,Adr]
theorem AaZ (x:Pk) (k:Pk->Bool):Ae4 x k=k x:=by simp only[Ae4,Fv]
theorem AaW (x:Sn) (k:Sn->Bool):Ae1 x k=k x:=by simp only[Ae1,Fv]
theorem Aa3 (x:Hd) (k:Hd->Bool):Ae7 x k=k x:=by simp only[Ae7,Fv]
theorem Aa0 (x:Nb) (k:Nb->Bool):Ae5 x k=k x:=by simp only[Ae5,Fv]
theorem AaX (x:Rk) (k:Rk->Bool):Ae2 x k=k x:=by simp only[Ae2,Fv]
theorem Aa4 (x:Ar) (k:Ar->Bool):Ae8 x k=k x:=by simp only[Ae8,Fv]
theorem AaT (x:Tb) (k:Tb->Bool):AeZ x k=k x:=by simp only[AeZ,Fv,Hc AaU]
theorem AaY (x:Qu) (k:Qu->Bool):Ae3 x k=k x:=by simp only[Ae3,Fv,Hc AaZ]
theorem X4 (x:Sta) (k:Sta->Bool):AaV x k=k x:=by simp only[AaV,Fv,AaT,AaY,Hc Aa3,Hc AaW]
theorem Aa2 (x:MN) (k:MN->Bool):Ae6 x k=k x:=by simp only[Ae6,Fv,X4,AaX,Hc Aa0]
theorem QD (x:Me) (k:Me->Bool):Aa1 x k=k x:=by simp only[Aa1,Fv,Hc Aa2,Hc Aa4]
def AcB (loads:List Ld) (sil:List Si):Nat->Me->(Me->Bool)->Bool
 |0,m,K=>Aa1 m K
 |k+1,m,K=>Aa1 m fun m1=>AcB loads sil k (Cz m1 loads sil) K
theorem PW (loads:List Ld) (sil:List Si) (K:Me->Bool):∀(k:Nat) (m:Me),AcB loads sil k m K=K (runN loads sil k m)
 |0,m=>QD m K
 |k+1,m=>by
  show Aa1 m (fun m1=>AcB loads sil k (Cz m1 loads sil) K)=_;rw[QD,PW loads sil K k,show k+1=1+k by omega,runN_add];rfl
theorem Uw {m:Me} {l:Ld} {sil:List Si} (h:l.slot≠m.slot):Cz m [l] sil=Cz m [] sil:=by
 have e:OV m.slot [l]=OV m.slot []:=by
  funext arr w
  unfold OV CF;rw[AgY (fun hn=>h hn.1)]
  rfl
 unfold Cz EI F0 Fk;rw[e]
theorem Rl {l:Ld} {sil:List Si} {m:Me} (hm:BX m=0):∀k:Nat,m.slot+k<=16384->m.slot+k<=l.slot->runN [l] sil k m=runN [] sil k m
 |0,_,_=>rfl
 |k+1,h1,h2=>by
  obtain⟨_,c2,_,_⟩:=Ed (loads:=[]) (sil:=sil) hm k (by omega);show Cz (runN [l] sil k m) [l] sil=Cz (runN [] sil k m) [] sil;rw[Rl hm k (by omega) (by omega),Uw (by omega)]
theorem Yn (m:Me) (loads:List Ld) (sil:List Si):∃t,(Cz m loads sil).arr=m.arr++t:=by
 have e:(Cz m loads sil).arr=(EI m loads sil).1:=rfl;rw[e,(HS m loads sil).2]
 split
 ·unfold F6
  split
  ·exact⟨[],(AgF _).symm⟩
  ·split
   ·exact⟨[],(AgF _).symm⟩
   ·rcases Ii m.arr (wk3 m loads sil 0).up.data m.slot with h|⟨h,_⟩
    ·exact⟨[],h.trans (AgF _).symm⟩
    ·exact⟨_,h⟩
 ·exact⟨[],(AgF _).symm⟩
theorem WA (loads:List Ld) (sil:List Si) (m:Me):∀k,∃t,(runN loads sil k m).arr=m.arr++t
 |0=>⟨[],(AgF _).symm⟩
 |k+1=>by
  obtain⟨t,ht⟩:=WA loads sil m k;obtain⟨u,hu⟩:=Yn (runN loads sil k m) loads sil;refine⟨t++u,?_⟩;show(Cz (runN loads sil k m) loads sil).arr=_;rw[hu,ht,AgE]
theorem SW (loads:List Ld) (sil:List Si) (m:Me) (k:Nat):runN loads sil k (Cz m loads sil)=runN loads sil (k+1) m:=by
 rw[show k+1=1+k by omega,runN_add];rfl
theorem WD {m:Me} (h:Za [] m) (loads:List Ld):Za loads m:=by
 obtain⟨g,h1,h2⟩:=h.ex;have hf:∀{t:Int} {k:Int×Int},Sv [] g t k->False:=fun hh=>by
  obtain⟨q,hq,_⟩:=hh;exact absurd hq (AgW _)
 exact⟨⟨g,fun i hi d hd=>(hf (h1 i hi d hd)).elim,fun a ha=>(hf (h2 a ha)).elim⟩,h.rng,h.asc⟩
def Jh (n:Nat):List Int:=(List.range n).map fun i:Nat=>(i:Int)-1
def Gw (n:Nat):Me:=(CM (Gm n) n).1
def AbB (n node:Nat) (at0:Int) (m:Me):Bool:=match m.arr with
 |[a]=>decide (a.origin=(node:Int))&&decide (at0<=a.slot)&&decide (a.slot<at0+((n*node:Nat):Int))
 |_=>false
def Xk (loads:List Ld) (sil:List Si) (n node:Nat) (at0:Int):Nat->Me->Bool
 |0,m=>AbB n node at0 m
 |k+1,m=>Aa1 m fun m1=>match m1.arr with
  |[]=>Xk loads sil n node at0 k (Cz m1 loads sil)
  |_=>AbB n node at0 m1
def RB (n:Nat) (s:List Si) (node:Nat) (m:Me):Bool:=Xk [⟨(node:Int),m.slot⟩] s n node m.slot (n*node+1) m
def XA (n:Nat) (s:List Si):Nat->Me->Bool
 |0,_=>true
 |k+1,m=>RB n s (k+1) m&&XA n s k m
def Aeb (x:Si) (k:Si->Bool):Bool:=fcI x.src fun a=>fcI x.dst fun b=>fcI x.first fun c=>fcI x.til fun d=>k ⟨a,b,c,d⟩
theorem VV (x:Si) (k:Si->Bool):Aeb x k=k x:=by simp only[Aeb,Fv]
def U5 (n:Nat) (s:List Si):Bool:=decide ((CM (Gm n) n).2=0)&&AcB [] s (n*n) (Gw n) fun m=>decide (D7 m=Jh n)
def I6 (n:Nat):Bool:=fcL Aeb (Iu n) (U5 n)
def AcI (n late:Nat) (s:List Si):Bool:=AcB [] s (n*n+late) (Gw n) (XA n s (n-1))
def HV (n late:Nat):Bool:=fcL Aeb (Iu n) (AcI n late)
theorem UH {loads:List Ld} {sil:List Si} {n node:Nat} {at0:Int}:∀{k:Nat} {m:Me},Xk loads sil n node at0 k m=true->∃j,j<=k/\AbB n node at0 (runN loads sil j m)=true
 |0,m,h=>⟨0,Ag0 _,h⟩
 |k+1,m,h=>by
  have h:Aa1 m (fun m1=>match m1.arr with
   |[]=>Xk loads sil n node at0 k (Cz m1 loads sil)
   |_=>AbB n node at0 m1)=true:=h
  rw[QD] at h
  split at h
  ·obtain⟨j,hj,h2⟩:=UH h;rw[SW] at h2;exact⟨j+1,by omega,h2⟩
  ·exact⟨0,Ag1 _,h⟩
theorem RD {n:Nat} {s:List Si} {m:Me}:∀{k:Nat},XA n s k m=true->∀node,1<=node->node<=k->RB n s node m=true
 |0,_,node,h1,h2=>by omega
 |k+1,h,node,h1,h2=>by
  have h:(RB n s (k+1) m&&XA n s k m)=true:=h;rw[Agt] at h;by_cases e:node=k+1
  ·rw[e];exact h.1
  ·exact RD h.2 node h1 (by omega)
theorem Aar {n node:Nat} {at0:Int} {m:Me} (h:AbB n node at0 m=true):m.arr.length=1/\(m.arr.getD 0 default).origin=node/\at0<=(m.arr.getD 0 default).slot/\(m.arr.getD 0 default).slot<at0+((n*node:Nat):Int):=by
 unfold AbB at h
 split at h
 ·rename_i a e;rw[e];simp only[Agt,Agl] at h;exact⟨rfl,h.1.1,h.1.2,h.2⟩
 ·cases h
structure Jf (n:Nat):Prop where
 new:(CM (Gm n) n).2=0
 par:D7 (runN [] (Iu n) (n*n) (Gw n))=Jh n
 arr:∀late node,late<n->1<=node->node<=n-1->(runN [⟨(node:Int),((n*n:Nat):Int)+late⟩] (Iu n) (late+n*node+1) (runN [] (Iu n) (n*n) (Gw n))).arr.length=1 /\
  ((runN [⟨(node:Int),((n*n:Nat):Int)+late⟩] (Iu n) (late+n*node+1) (runN [] (Iu n) (n*n) (Gw n))).arr.getD 0 default).origin=node /\
  ((n*n:Nat):Int)+late<=((runN [⟨(node:Int),((n*n:Nat):Int)+late⟩] (Iu n) (late+n*node+1) (runN [] (Iu n) (n*n) (Gw n))).arr.getD 0 default).slot /\
  ((runN [⟨(node:Int),((n*n:Nat):Int)+late⟩] (Iu n) (late+n*node+1) (runN [] (Iu n) (n*n) (Gw n))).arr.getD 0 default).slot<((n*n:Nat):Int)+late+((n*node:Nat):Int)
theorem IM {n:Nat} (hn:n<=7) (h:I6 n=true) (hla:∀late,late<n->HV n late=true):Jf n:=by
 unfold I6 at h;rw[Hc VV] at h;unfold U5 at h;rw[PW,Agt] at h;have h0:=AgI h.1;obtain⟨n1,n2,_⟩:=JE h0;have hn2:n*n<=49:=Nat.mul_le_mul hn hn;obtain⟨r1,r2,_,_⟩:=Ed (loads:=[]) (sil:=Iu n) (m:=Gw n) n1 (n*n) (by show(Gw n).slot+_<=_;unfold Gw;omega);have r3:=Jq (loads:=[]) (sil:=Iu n) (m:=Gw n) n1 (Ys [] h0) (n*n) (by show(Gw n).slot+_<=_;unfold Gw;omega);have r2:(runN [] (Iu n) (n*n) (Gw n)).slot=((n*n:Nat):Int):=by
  rw[r2];unfold Gw;omega
 refine⟨h0,AgI h.2,fun late node hl h1 h2=>?_⟩;have h3:=hla late hl;unfold HV at h3;rw[Hc VV] at h3;unfold AcI at h3;rw[PW,runN_add] at h3;have h3:=RD h3 node h1 h2;generalize runN [] (Iu n) (n*n) (Gw n)=M at *;obtain⟨c1,c2,_,_⟩:=Ed (loads:=[]) (sil:=Iu n) r1 late (by omega);have c3:=Jq (loads:=[]) (sil:=Iu n) r1 r3 late (by omega);have hnn:n*node<=49:=Nat.mul_le_mul hn (show node<=7 by omega);unfold RB at h3;rw[c2,r2] at h3;rw[show late+n*node+1=late+(n*node+1) by omega,runN_add,Rl r1 late (by omega) (by show _<=((n*n:Nat):Int)+late;omega)];obtain⟨j,hj,h4⟩:=UH h3;generalize runN [] (Iu n) late M=B at *;have c4:=WB (Jq (loads:=[⟨(node:Int),((n*n:Nat):Int)+late⟩]) (sil:=Iu n) c1 (WD c3 _) (n*node+1) (by omega));have e:n*node+1=j+(n*node+1-j):=by omega
 rw[e,runN_add] at c4 ⊢;obtain⟨t,ht⟩:=WA [⟨(node:Int),((n*n:Nat):Int)+late⟩] (Iu n) (runN [⟨(node:Int),((n*n:Nat):Int)+late⟩] (Iu n) j B) (n*node+1-j);have h5:=Aar h4;have e2:t=[]:=by
  have:t.length=0:=by
   rw[ht,Agn] at c4;have:([⟨(node:Int),((n*n:Nat):Int)+late⟩]:List Ld).length=1:=rfl;omega
  exact List.length_eq_zero_iff.1 this
 rw[ht,e2,AgF];exact h5
end Go.Proofs.M
end
section
namespace Go.Proofs.M
open Go Go.Sx Go.Proofs Go.Proofs.T Go.Proofs.Q
set_option maxRecDepth 100000
theorem Af9:I6 2=true:=by kernel_rfl
theorem Ac9:HV 2 0=true:=by kernel_rfl
theorem Ac8:HV 2 1=true:=by kernel_rfl
theorem Af3:Jf 2:=IM (by omega) Af9 fun late h=>by
 have:late=0\/late=1:=by omega
 rcases this with rfl|rfl
 ·exact Ac9
 ·exact Ac8
theorem Af8:I6 3=true:=by kernel_rfl
theorem Ac7:HV 3 0=true:=by kernel_rfl
theorem Ac6:HV 3 1=true:=by kernel_rfl
theorem Ac5:HV 3 2=true:=by kernel_rfl
theorem Af2:Jf 3:=IM (by omega) Af8 fun late h=>by
 have:late=0\/late=1\/late=2:=by omega
 rcases this with rfl|rfl|rfl
 ·exact Ac7
 ·exact Ac6
 ·exact Ac5
theorem Af7:I6 4=true:=by kernel_rfl
theorem Ac4:HV 4 0=true:=by kernel_rfl
theorem Ac3:HV 4 1=true:=by kernel_rfl
theorem Ac2:HV 4 2=true:=by kernel_rfl
theorem Ac1:HV 4 3=true:=by kernel_rfl
theorem Af1:Jf 4:=IM (by omega) Af7 fun late h=>by
 have:late=0\/late=1\/late=2\/late=3:=by omega
 rcases this with rfl|rfl|rfl|rfl
 ·exact Ac4
 ·exact Ac3
 ·exact Ac2
 ·exact Ac1
theorem Af6:I6 5=true:=by kernel_rfl
theorem Ac0:HV 5 0=true:=by kernel_rfl
theorem AcZ:HV 5 1=true:=by kernel_rfl
theorem AcY:HV 5 2=true:=by kernel_rfl
theorem AcX:HV 5 3=true:=by kernel_rfl
theorem AcW:HV 5 4=true:=by kernel_rfl
theorem Af0:Jf 5:=IM (by omega) Af6 fun late h=>by
 have:late=0\/late=1\/late=2\/late=3\/late=4:=by omega
 rcases this with rfl|rfl|rfl|rfl|rfl
 ·exact Ac0
 ·exact AcZ
 ·exact AcY
 ·exact AcX
 ·exact AcW
theorem Af5:I6 6=true:=by kernel_rfl
theorem AcV:HV 6 0=true:=by kernel_rfl
theorem AcU:HV 6 1=true:=by kernel_rfl
theorem AcT:HV 6 2=true:=by kernel_rfl
theorem AcS:HV 6 3=true:=by kernel_rfl
theorem AcR:HV 6 4=true:=by kernel_rfl
theorem AcQ:HV 6 5=true:=by kernel_rfl
theorem AfZ:Jf 6:=IM (by omega) Af5 fun late h=>by
 have:late=0\/late=1\/late=2\/late=3\/late=4\/late=5:=by omega
 rcases this with rfl|rfl|rfl|rfl|rfl|rfl
 ·exact AcV
 ·exact AcU
 ·exact AcT
 ·exact AcS
 ·exact AcR
 ·exact AcQ
theorem Af4:I6 7=true:=by kernel_rfl
theorem AcP:HV 7 0=true:=by kernel_rfl
theorem AcO:HV 7 1=true:=by kernel_rfl
theorem AcN:HV 7 2=true:=by kernel_rfl
theorem AcM:HV 7 3=true:=by kernel_rfl
theorem AcL:HV 7 4=true:=by kernel_rfl
theorem AcK:HV 7 5=true:=by kernel_rfl
theorem AcJ:HV 7 6=true:=by kernel_rfl
theorem AfY:Jf 7:=IM (by omega) Af4 fun late h=>by
 have:late=0\/late=1\/late=2\/late=3\/late=4\/late=5\/late=6:=by omega
 rcases this with rfl|rfl|rfl|rfl|rfl|rfl|rfl
 ·exact AcP
 ·exact AcO
 ·exact AcN
 ·exact AcM
 ·exact AcL
 ·exact AcK
 ·exact AcJ
theorem XJ {n:Nat} (h1:2<=n) (h2:n<=7):Jf n:=by
 have:n=2\/n=3\/n=4\/n=5\/n=6\/n=7:=by omega
 rcases this with rfl|rfl|rfl|rfl|rfl|rfl
 ·exact Af3
 ·exact Af2
 ·exact Af1
 ·exact Af0
 ·exact AfZ
 ·exact AfY
end Go.Proofs.M
end
section
namespace Go.Proofs.M
open Go Go.Sx Go.Proofs Go.Proofs.T Go.Proofs.Q
set_option maxRecDepth 4000
attribute [local irreducible] VR VC thenQ blockQ retL
theorem SA (k:Nat):Jh (k+1)=Jh k++[(k:Int)-1]:=by
 unfold Jh;rw[List.range_succ,Ag8];rfl
theorem Ue (k:Nat):(Jh k).length=k:=by simp[Jh]
set_option maxHeartbeats 8000000 in
theorem OA (x0 x1 x2:Int) (h0:0<=x0/\x0<=255) (h1:0<=x1/\x1<=255) (h2:0<=x2/\x2<=255):
  FnS Tryz.prog 6 [AD (.int .u8 x0),AD (.int .u8 x1),AD (.int .u8 x2)] [] (AB true) []:=by
 refine fb Tryz.func6 (by kernel_rfl) rfl Tryz.ntmps6 Tryz.results6 rfl rfl rfl rfl fun E hS=>?_
 repeat'(first|refine sR ?_|refine Ak rfl (by first|exact tt0|omega) ?_|(refine gC ?_;first|refine Aa (T0) (gk rfl) rfl rfl rfl (by rfl) rfl (by first|exact Bx|rfl) rfl ?_)|(refine gV ?_;first|refine A4 (gk rfl) rfl ⟨_,rfl⟩ rfl (by first|exact wrap_i64 (by omega)|exact wrap_u64 (by omega)|exact wrap_u16 (by omega)|exact wrap_u8 (by omega)|exact wrap_u32 (by omega)) rfl ?_)|refine sq 4 rfl ?_|(refine gD ?_;first|refine Ah rfl ?_)|fail)
 obtain⟨N,hN⟩:∃N:Nat,2+x0 % 6=N:=⟨(2+x0 % 6).toNat,by omega⟩;have hN2:2<=N:=by omega
 have hN7:N<=7:=by omega
 refine VC.le (σ':=AS [(1,AD (.int .u8 x1)),(2,AD (.int .u8 x2)),(6,AB false),(7,AI N)] []) ?_ ?_
 ·rw[<-hN];refine lg ?_ ?_ rfl (by rfl)
  all_goals repeat'(first|exact tt0|refine⟨⟨_,rfl,?_⟩,?_⟩|exact .c .d|fail)
 have hok:=XJ hN2 hN7;have hls:=Ow N (by omega);have hrs:=Xn N (by omega);have hns:=Og (Gm N) N;rw[hok.new] at hns;obtain⟨n1,n2,_⟩:=JE hok.new;have hNN:N*N<=49:=Nat.mul_le_mul hN7 hN7;have hNN2:(N:Int)*(N:Int)=((N*N:Nat):Int):=(Int.natCast_mul N N).symm;have c1:=Rm (loads:=[]) (sil:=Iu N) (j:=(N:Int)*(N:Int)) n1 (by simp) (by have:=Jt (n:=N) (by omega) N;show(PY N N).length<=1024;omega) (by omega) (by omega);rw[show((N:Int)*(N:Int)).toNat=N*N by omega] at c1;obtain⟨r1,r2,_,_⟩:=Ed (loads:=[]) (sil:=Iu N) n1 (N*N) (by omega);have hpar:=hok.par;have harr:=hok.arr;unfold Gw at hpar harr;generalize (CM (Gm N) N).1=m0 at *;generalize runN [] (Iu N) (N*N) m0=M at *;have hp:=I4 M;rw[hpar] at hp;have heq:=KH (Jh N) (Jh N);rw[Agj rfl] at heq
 repeat'(first|refine sR ?_|refine Ak rfl (by first|exact tt0|omega) ?_|(refine gC ?_;first|refine Aa (hls) (gk rfl) rfl rfl rfl (by rfl) rfl (by first|exact Bx|rfl) rfl ?_|refine Aa (hns) (gk rfl) rfl rfl rfl (by rfl) rfl (by first|exact Bx|rfl) rfl ?_)|refine sq 5 rfl ?_|fail)
 refine VC.le (σ':=AS [(1,AD (.int .u8 x1)),(2,AD (.int .u8 x2)),(6,AB false),(7,AI N),(8,.c (.ptr 8 0)),(9,AI 0)] [(8,.box m0.cs)]) ?_ ?_
 ·refine lg ?_ ?_ rfl (by rfl)
  all_goals repeat'(first|exact tt0|refine⟨⟨_,rfl,?_⟩,?_⟩|exact .c .d|exact .c (.ptr rfl)|exact .Bs rfl rfl|fail)
 repeat'(first|refine sR ?_|refine Ak rfl (by first|exact tt0|omega) ?_|(refine gC ?_;first|refine Aa (hrs) (gk rfl) rfl rfl rfl (by rfl) rfl (by first|exact Bx|rfl) rfl ?_|refine AF [] (c1) (gk rfl) rfl (by(repeat'(first|exact .nil|refine .cons ?_ ?_|exact .of0 (.c .d)|exact .of0 .ep|exact .clo|exact .of0 (.c .nil)|exact .of0 (.c (A9 (by simp) rfl (by first|rfl|omega) (fun _=>rfl)))|refine .of0 (.agg ?_)|exact .d|exact .nil|exact .of0 (.c (Gt (by decide) rfl rfl (by repeat'(first|exact tt0|refine⟨?_,?_⟩|rfl))))))<;>fail) (by first|rfl|exact Ku (fun _=>rfl)|exact Adl rfl (fun _=>rfl)) rfl (by rfl) rfl (by first|exact Bx|rfl) rfl ?_)|refine Ap (by kernel_rfl) ?_|refine sq 6 rfl ?_|fail)
 refine VC.le (σ':=AS [(1,AD (.int .u8 x1)),(2,AD (.int .u8 x2)),(6,AB false),(7,AI N),(8,.c (.ptr 8 0)),(9,AI 0),(10,AI 0)] [(8,.box M.cs)]) ?_ ?_
 ·refine lg ?_ ?_ rfl (by rfl)
  all_goals repeat'(first|exact tt0|refine⟨⟨_,rfl,?_⟩,?_⟩|exact .c .d|exact .c (.ptr rfl)|exact .Bs rfl rfl|fail)
 repeat'(first|refine sC ?_|refine Ak rfl (by first|exact tt0|omega) ?_|(refine gD ?_;first|refine Ah rfl ?_)|fail)
 refine AK (ι:=Nat) (fun k=>AS [(1,AD (.int .u8 x1)),(2,AD (.int .u8 x2)),(6,AB false),(7,AI N),(8,.c (.ptr 8 0)),(11,.c (.row 111 (Jh k).length)),(12,AI k)] [(8,.box M.cs),(111,.row 3 1 (rowOf Fz.enc (Jh k)))]) (fun k=>1<=k/\k<=N) (fun k=>N-k) 1 ⟨Ag0 _,by omega⟩ ?_ ?_
 ·refine Am (fun n=>if n=111 then 44 else n) ?_ ?_ rfl (by rfl)
  all_goals repeat'(first|exact tt0|refine⟨⟨_,rfl,?_⟩,?_⟩|exact .c .d|exact .c (.ptr rfl)|exact .c (.row rfl rfl)|exact .Bs rfl rfl|exact .Bc rfl Ag|fail)
 ·rintro k ⟨hk1,hk⟩;have hl:=Ue k;by_cases hc:k<N
  ·have hd:decide ((k:Int)<(N:Int))=true:=Agj (by omega);have hs:=SA k
   repeat'(first|refine sC ?_|refine Ak rfl (by first|exact tt0|omega) ?_|(refine gA ?_;first|refine Be (gk rfl) rfl rfl rfl (by first|rfl|exact Al.symm|(simp only[lns]<;>omega)) (by first|exact .row rfl (by first|rfl|exact Al.symm)|exact .rd|exact .Db) rfl rfl rfl (by(try dsimp only);omega) rfl rfl ?_)|(refine gD ?_;first|refine Ai rfl ?_|refine At rfl (by assumption) ?_)|fail)
   refine⟨k+1,⟨by omega,by omega⟩,by omega,?_⟩;rw[hs,Agn];refine Am (fun n=>if n=111 then 54 else n) ?_ ?_ rfl (by(simp only[wfL,wfs];rfl))
   all_goals repeat'(first|exact tt0|refine⟨⟨_,rfl,?_⟩,?_⟩|exact .c .d|exact .c (.ptr rfl)|exact .c (.row rfl rfl)|exact .Bs rfl rfl|(refine .Bc ?_ Ag;rw[AZ];rfl)|fail)
  ·have hd:decide ((k:Int)<(N:Int))=false:=Agk (by omega);have hkl:k=N:=by omega
   subst hkl
   repeat'(first|refine sR ?_|refine Ak rfl (by first|exact tt0|omega) ?_|refine sq 13 rfl ?_|(refine gD ?_;first|refine Ah rfl ?_|refine At rfl (by assumption) ?_)|fail)
   refine VC.le (σ':=AS [(1,AD (.int .u8 x1)),(2,AD (.int .u8 x2)),(6,AB false),(7,AI k),(8,.c (.ptr 8 0)),(11,AD (ints (Jh k)))] [(8,.box M.cs)]) ?_ ?_
   ·refine Bm (fun n=>n) [111] hS ?_ ?_ rfl (by rfl)
    all_goals repeat'(first|exact tt0|refine⟨⟨_,rfl,?_⟩,?_⟩|exact .c .d|exact .c (.ptr rfl)|exact .c (.Cd (by first|(simp;done)|decide) rfl rfl (fun _=>rfl))|exact .Bs rfl rfl|fail)
   repeat'(first|refine sR ?_|refine Ak rfl (by first|exact tt0|omega) ?_|(refine gC ?_;first|refine Aa (hp) (gk rfl) rfl rfl rfl (by rfl) rfl (by first|exact Bx|rfl) rfl ?_|refine Aa (heq) (gk rfl) rfl rfl rfl (by rfl) rfl (by first|exact Bx|rfl) rfl ?_)|refine sq 15 rfl ?_|(refine gD ?_;first|refine Ah rfl ?_)|fail)
   have hn1:(k:Int)-1≠0:=by omega
   have hn0:(k:Int)≠0:=by omega
   have hm1:=Int.emod_nonneg x1 hn1;have hm2:=Int.emod_lt_of_pos x1 (show 0<(k:Int)-1 by omega);have hm3:=Int.emod_nonneg x2 hn0;have hm4:=Int.emod_lt_of_pos x2 (show 0<(k:Int) by omega);obtain⟨K,hK⟩:∃K:Nat,1+x1 % ((k:Int)-1)=K:=⟨(1+x1 % ((k:Int)-1)).toNat,by omega⟩;obtain⟨L,hL⟩:∃L:Nat,x2 % (k:Int)=L:=⟨(x2 % (k:Int)).toNat,by omega⟩;have hkK:k*K<=49:=Nat.mul_le_mul hN7 (show K<=7 by omega);have hkK2:(k:Int)*(K:Int)=((k*K:Nat):Int):=(Int.natCast_mul k K).symm;obtain⟨A,hA⟩:∃A,A=M.slot+x2 % (k:Int):=⟨_,rfl⟩;have hA2:A=((k*k:Nat):Int)+L:=by omega
   obtain⟨a1,a2,a3,a4⟩:=harr L K (by omega) (by omega) (by omega);rw[<-hA2] at a1 a2 a3 a4;have c2:=Rm (loads:=[⟨(K:Int),A⟩]) (sil:=Iu k) (j:=x2 % (k:Int)+(k:Int)*(K:Int)+1) r1 (by simp) (by have:=Jt (n:=k) (by omega) k;show(PY k k).length<=1024;omega) (by omega) (by omega);rw[show(x2 % (k:Int)+(k:Int)*(K:Int)+1).toNat=L+k*K+1 by omega] at c2;generalize runN [⟨(K:Int),A⟩] (Iu k) (L+k*K+1) M=M2 at *
   repeat'(first|refine sR ?_|refine Ak rfl (by first|exact tt0|omega) ?_|(refine gV ?_;first|refine A4 (gk rfl) rfl ⟨_,rfl⟩ rfl (by first|exact wrap_i64 (by omega)|exact wrap_u64 (by omega)|exact wrap_u16 (by omega)|exact wrap_u8 (by omega)|exact wrap_u32 (by omega)) rfl ?_)|refine sq 16 rfl ?_|fail)
   refine VC.le (σ':=AS [(2,AD (.int .u8 x2)),(6,AB false),(7,AI k),(8,.c (.ptr 8 0)),(13,AI K)] [(8,.box M.cs)]) ?_ ?_
   ·rw[<-hK];refine lg ?_ ?_ rfl (by rfl)
    all_goals repeat'(first|exact tt0|refine⟨⟨_,rfl,?_⟩,?_⟩|exact .c .d|exact .c (.ptr rfl)|exact .Bs rfl rfl|fail)
   repeat'(first|refine sR ?_|refine Ak rfl (by first|exact tt0|omega) ?_|(refine gV ?_;first|refine A4 (gk rfl) rfl ⟨_,rfl⟩ rfl (by first|exact wrap_i64 (by omega)|exact wrap_u64 (by omega)|exact wrap_u16 (by omega)|exact wrap_u8 (by omega)|exact wrap_u32 (by omega)) rfl ?_)|refine Ap (by kernel_rfl) ?_|refine sq 17 rfl ?_|fail)
   refine VC.le (σ':=AS [(2,AD (.int .u8 x2)),(6,AB false),(7,AI k),(8,.c (.ptr 8 0)),(13,AI K),(14,AI A)] [(8,.box M.cs)]) ?_ ?_
   ·rw[hA];refine lg ?_ ?_ rfl (by rfl)
    all_goals repeat'(first|exact tt0|refine⟨⟨_,rfl,?_⟩,?_⟩|exact .c .d|exact .c (.ptr rfl)|exact .Bs rfl rfl|fail)
   repeat'(first|refine sR ?_|refine Ak rfl (by first|exact tt0|omega) ?_|(refine gC ?_;first|refine Aa (hrs) (gk rfl) rfl rfl rfl (by rfl) rfl (by first|exact Bx|rfl) rfl ?_|refine Q5 (nmL []) [87] [] (FnS.toW (c2)) (gk rfl) rfl rfl (by(repeat'(first|exact .nil|refine .cons ?_ ?_|exact .w (.c (.ptr rfl)) rfl|exact .w (.c (.row rfl rfl)) rfl|exact .w (.c (.mp rfl)) rfl|exact .w (.c (.fn rfl)) rfl|exact .w (.rp rfl) rfl|(refine .w (.Aea ?_) rfl;repeat'(first|exact .nil|refine .cons ?_ ?_|exact .d|exact .ptr rfl|exact .row rfl rfl|(refine .row rfl ?_;((try dsimp only);first|rfl|omega|(simp only[lns]<;>omega));done)|exact .fn rfl|exact .mp rfl|exact .Cd (by first|(simp;done)|decide) rfl rfl (fun _=>rfl)))|exact .r (.of0 (.c .d))|refine .r ?_|exact .of0 (.c .d)|exact .of0 .ep|exact .clo|exact .of0 (.c .nil)|exact .of0 (.c (A9 (by simp) rfl (by first|rfl|omega) (fun _=>rfl)))|refine .of0 (.agg ?_)|exact .d|exact .nil|exact .of0 (.c (Gt (by decide) rfl rfl (by repeat'(first|exact tt0|refine⟨?_,?_⟩|rfl))))))<;>fail) trivial rfl rfl rfl hS rfl (by rfl) rfl rfl rfl rfl (by(simp only[F5,List.map_cons,List.map_nil,Blk.ren,C.ren,Bp,BU,BT,gW,D1,nmL,Nat.reduceBEq,Bool.or_false,Bool.or_true,Bool.false_or,Bool.true_or,cond_true,cond_false,Nat.reduceMul,Nat.reduceAdd])<;>rfl) (by(simp only[AV.ren,AV.HQ,List.map_cons,List.map_nil,C.ren,gW,D1,nmL,Nat.reduceBEq,Bool.or_false,Bool.or_true,Bool.false_or,Bool.true_or,cond_true,cond_false,Nat.reduceMul,Nat.reduceAdd])<;>rfl) rfl ?_)|(refine gV ?_;first|refine A4 (gk rfl) rfl ⟨_,rfl⟩ rfl (by first|exact wrap_i64 (by omega)|exact wrap_u64 (by omega)|exact wrap_u16 (by omega)|exact wrap_u8 (by omega)|exact wrap_u32 (by omega)) rfl ?_)|refine Ap (by kernel_rfl) ?_|refine sq 18 rfl ?_|fail)
   refine VC.le (σ':=AS [(6,AB false),(7,AI k),(8,.c (.ptr 8 0)),(10,AI 0),(13,AI K),(14,AI A)] [(8,.box M2.cs)]) ?_ ?_
   ·refine lg ?_ ?_ rfl (by rfl)
    all_goals repeat'(first|exact tt0|refine⟨⟨_,rfl,?_⟩,?_⟩|exact .c .d|exact .c (.ptr rfl)|exact .Bs rfl rfl|fail)
   have f1:decide ((M2.arr.length:Int)=1)=true:=Agj (by omega);have f2:decide ((M2.arr.getD 0 default).origin=(K:Int))=true:=Agj a2;have f3:decide (A<=(M2.arr.getD 0 default).slot)=true:=Agj a3;have f4:decide ((M2.arr.getD 0 default).slot<A+(k:Int)*(K:Int))=true:=Agj (by omega)
   repeat'(first|refine sB ?_|refine Ak rfl (by first|exact tt0|omega) ?_|(refine gI ?_;first|refine DA (gk rfl) rfl rfl rfl rfl (by first|omega|decide) rfl ?_)|refine Az rfl (by assumption) ?_|fail)
   all_goals exact Aw Ab rfl f4.symm
end Go.Proofs.M
end
