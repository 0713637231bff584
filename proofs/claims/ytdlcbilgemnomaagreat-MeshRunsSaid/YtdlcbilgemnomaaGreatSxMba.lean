/-
  Functions' results, and laws on them. No condition.
-/
import Derived.Test.YtdlcbilgemnomaaGreatSxMau
set_option linter.unusedSimpArgs false
set_option linter.unusedVariables false
set_option maxRecDepth 4000
set_option maxHeartbeats 16000000
open Go.Proofs.Tryz
namespace Go.Proofs.P
open Go Go.Sx
attribute [local irreducible] VR VC thenQ blockQ retL
theorem Wr (l:List Nb) (t e k s:Int) (h:checkNb l=0) (hr:C5 t e k s=true) (hs:¬s<(HP l t).slot):FnS Tryz.prog 101 [AD (nbs l),AI t,AI e,AI k,AI s] []
  (.tup [AD (nbs (EU l t (CG l t) l.length (Sk (HP l t) e k s))),AI 0]) []:=by
 have hck:=CQ l;rw[h] at hck;have hh:=Fm t e k s;rw[hr] at hh;obtain⟨hlen,hall⟩:=Bu h;have hix:=CP l t;rw[HO h] at hix;obtain⟨b1,b2,b3⟩:=Jm h t;have hx0:¬s<(0:Int):=by
  simp only[C5,AjE,CZ] at hr;omega
 refine Ao func101 ntmps101 results101 fun E hS=>?_
 refine AG ?_;cases hf:BD l t with
 |true=>
  rw[hf] at hix;rw[HP,Akc hf] at hs ⊢;have hi:=(BP.1 hf).1;have hn:=(BP.1 hf).2;generalize CG l t=i at *;have hix':Ak 150 [AD (nbs l),AI t] (AI (i:Nat)):=hix
  repeat'(first|refine AJ ?_|refine Aa (hck) ?_|refine Aa (hh) ?_|refine Aa (hix') ?_|refine sq 12 rfl ?_|(refine Av ?_ ?_<;>intro h hq)|fail)
  ·exfalso;omega
  ·refine VC.le (By (l:=[(0,AD (nbs l)),(1,AI t),(12,.c (.ptr 12 0))]) (b:=[(12,.box (Sk (l.getD i default) e k s).AhB)]) ⟨rfl,rfl,rfl,tt0⟩ ⟨rfl,tt0⟩ rfl) ?_;generalize Sk (l.getD i default) e k s=y
   repeat'(first|refine Af ?_|fail)
   refine Ax (ι:=Nat) (fun q=>AN [(0,AD (nbs l)),(1,AI t),(12,.c (.ptr 12 0)),(14,.c (.row 44 (l.take q).length)),(15,AI q)] [(12,.box y.AhB),(44,.row 93 6 (rowOf Nb.enc (l.take q)))])
    (fun q=>q<=i) (fun q=>i-q) 0 (Ake _) ?_ ?_
   ·exact(le_nil (t:=14) (nm:=44) (T:=93) (sz:=6) rfl rfl).trans (By ⟨rfl,rfl,rfl,rfl,rfl,tt0⟩ ⟨rfl,rfl,tt0⟩ rfl)
   ·intro q hq0;have hql:(l.take q).length=q:=by rw[AjD];omega
    have hb2:=b2 q;have hb3:=b3 q
    repeat'(first|refine Af ?_|refine Ap ?_|(refine Av ?_ ?_<;>intro h hq)|fail)
    ·have hlt:q<i:=by
      rcases Akf q i with h1|h1
      ·exact h1
      ·have:=hb3 h1 (by omega);omega
     refine⟨q+1,by omega,by omega,A0 (fun n=>if n=44 then 67 else n) ⟨⟨_,rfl,.c .d⟩,⟨_,rfl,.c .d⟩,⟨_,rfl,.c (.ptr rfl)⟩,⟨_,rfl,.c (.row rfl (by simp;omega))⟩,⟨_,rfl,.c .d⟩,tt0⟩
      ⟨⟨_,rfl,.FA rfl rfl⟩,⟨_,rfl,.CJ (by rw[Bq (by omega),AF];rfl) Ai⟩,tt0⟩ rfl (by simp only[wfL,wfs];rfl)⟩
    all_goals
     have hqi:q=i:=by
      rcases Akf q i with h1|h1
      ·have:=hb2 h1;omega
      ·omega
     subst hqi;clear hb2 hb3;refine Ax (ι:=Nat) (fun m=>AN [(0,AD (nbs l)),(1,AI t),(14,.c (.row 44 (EU l t q m y).length)),(15,AI m)] [(44,.row 93 6 (rowOf Nb.enc (EU l t q m y)))])
      (fun m=>q<=m/\m<=l.length) (fun m=>l.length-m) q ⟨Akd _,b1⟩ ?_ ?_
     ·refine A0 (fun n=>if n=44 then 71 else n) ⟨⟨_,rfl,.c .d⟩,⟨_,rfl,.c .d⟩,⟨_,rfl,.c (.row rfl (by rw[F8];simp))⟩,⟨_,rfl,.c .d⟩,tt0⟩
       ⟨⟨_,rfl,.CJ (by rw[F8,AF];rfl) Ai⟩,tt0⟩ rfl (by simp only[wfL,wfs];rfl)
     ·rintro m ⟨hm1,hm2⟩;have hrl:=N0 l t q m y
      repeat'(first|refine Af ?_|refine Ap ?_|(refine Av ?_ ?_<;>intro h hq)|fail)
      ·have hst:=GS (t:=t) (y:=y) hm1 (show m<l.length by omega);rw[Akb (by assumption)] at hst;refine⟨m+1,⟨by omega,by omega⟩,by omega,A0 (fun n=>if n=44 then 91 else n) ⟨⟨_,rfl,.c .d⟩,⟨_,rfl,.c .d⟩,⟨_,rfl,.c (.row rfl (by rw[hst,Ajy];rfl))⟩,⟨_,rfl,.c .d⟩,tt0⟩
        ⟨⟨_,rfl,.CJ (by rw[hst,AF];rfl) Ai⟩,tt0⟩ rfl (by simp only[wfL,wfs];rfl)⟩
      ·have hst:=GS (t:=t) (y:=y) hm1 (show m<l.length by omega);rw[Akc (by assumption)] at hst;refine⟨m+1,⟨by omega,by omega⟩,by omega,A0 (fun n=>n) ⟨⟨_,rfl,.c .d⟩,⟨_,rfl,.c .d⟩,⟨_,rfl,.c (.row rfl (by rw[hst]))⟩,⟨_,rfl,.c .d⟩,tt0⟩
        ⟨⟨_,rfl,.CJ (by rw[hst]) Ai⟩,tt0⟩ rfl (by simp only[wfL,wfs];rfl)⟩
      ·have hml:m=l.length:=by omega
       subst hml;exact Ag (Cu (l:=[(10,AD (nbs (EU l t q l.length y))),(11,AI 0)]) (b:=[]) (fun n=>n) [44] hS) Bg
 |false=>
  rw[hf] at hix;rw[HP,Akb (by rw[hf];simp)] at hs ⊢;generalize CG l t=i at *;have hix':Ak 150 [AD (nbs l),AI t] (AI (-1)):=hix
  repeat'(first|refine AJ ?_|refine Aa (hck) ?_|refine Aa (hh) ?_|refine Aa (hix') ?_|refine sq 12 rfl ?_|(refine Av ?_ ?_<;>intro h hq)|fail)
  ·exfalso;omega
  ·refine VC.le (By (l:=[(0,AD (nbs l)),(1,AI t),(12,.c (.ptr 12 0))]) (b:=[(12,.box (Sk (Pf t) e k s).AhB)]) ⟨rfl,rfl,rfl,tt0⟩ ⟨rfl,tt0⟩ rfl) ?_;generalize Sk (Pf t) e k s=y
   repeat'(first|refine Af ?_|fail)
   refine Ax (ι:=Nat) (fun q=>AN [(0,AD (nbs l)),(1,AI t),(12,.c (.ptr 12 0)),(14,.c (.row 44 (l.take q).length)),(15,AI q)] [(12,.box y.AhB),(44,.row 93 6 (rowOf Nb.enc (l.take q)))])
    (fun q=>q<=i) (fun q=>i-q) 0 (Ake _) ?_ ?_
   ·exact(le_nil (t:=14) (nm:=44) (T:=93) (sz:=6) rfl rfl).trans (By ⟨rfl,rfl,rfl,rfl,rfl,tt0⟩ ⟨rfl,rfl,tt0⟩ rfl)
   ·intro q hq0;have hql:(l.take q).length=q:=by rw[AjD];omega
    have hb2:=b2 q;have hb3:=b3 q
    repeat'(first|refine Af ?_|refine Ap ?_|(refine Av ?_ ?_<;>intro h hq)|fail)
    ·have hlt:q<i:=by
      rcases Akf q i with h1|h1
      ·exact h1
      ·have:=hb3 h1 (by omega);omega
     refine⟨q+1,by omega,by omega,A0 (fun n=>if n=44 then 67 else n) ⟨⟨_,rfl,.c .d⟩,⟨_,rfl,.c .d⟩,⟨_,rfl,.c (.ptr rfl)⟩,⟨_,rfl,.c (.row rfl (by simp;omega))⟩,⟨_,rfl,.c .d⟩,tt0⟩
      ⟨⟨_,rfl,.FA rfl rfl⟩,⟨_,rfl,.CJ (by rw[Bq (by omega),AF];rfl) Ai⟩,tt0⟩ rfl (by simp only[wfL,wfs];rfl)⟩
    all_goals
     have hqi:q=i:=by
      rcases Akf q i with h1|h1
      ·have:=hb2 h1;omega
      ·omega
     subst hqi;clear hb2 hb3;refine Ax (ι:=Nat) (fun m=>AN [(0,AD (nbs l)),(1,AI t),(14,.c (.row 44 (EU l t q m y).length)),(15,AI m)] [(44,.row 93 6 (rowOf Nb.enc (EU l t q m y)))])
      (fun m=>q<=m/\m<=l.length) (fun m=>l.length-m) q ⟨Akd _,b1⟩ ?_ ?_
     ·refine A0 (fun n=>if n=44 then 71 else n) ⟨⟨_,rfl,.c .d⟩,⟨_,rfl,.c .d⟩,⟨_,rfl,.c (.row rfl (by rw[F8];simp))⟩,⟨_,rfl,.c .d⟩,tt0⟩
       ⟨⟨_,rfl,.CJ (by rw[F8,AF];rfl) Ai⟩,tt0⟩ rfl (by simp only[wfL,wfs];rfl)
     ·rintro m ⟨hm1,hm2⟩;have hrl:=N0 l t q m y
      repeat'(first|refine Af ?_|refine Ap ?_|(refine Av ?_ ?_<;>intro h hq)|fail)
      ·have hst:=GS (t:=t) (y:=y) hm1 (show m<l.length by omega);rw[Akb (by assumption)] at hst;refine⟨m+1,⟨by omega,by omega⟩,by omega,A0 (fun n=>if n=44 then 91 else n) ⟨⟨_,rfl,.c .d⟩,⟨_,rfl,.c .d⟩,⟨_,rfl,.c (.row rfl (by rw[hst,Ajy];rfl))⟩,⟨_,rfl,.c .d⟩,tt0⟩
        ⟨⟨_,rfl,.CJ (by rw[hst,AF];rfl) Ai⟩,tt0⟩ rfl (by simp only[wfL,wfs];rfl)⟩
      ·have hst:=GS (t:=t) (y:=y) hm1 (show m<l.length by omega);rw[Akc (by assumption)] at hst;refine⟨m+1,⟨by omega,by omega⟩,by omega,A0 (fun n=>n) ⟨⟨_,rfl,.c .d⟩,⟨_,rfl,.c .d⟩,⟨_,rfl,.c (.row rfl (by rw[hst]))⟩,⟨_,rfl,.c .d⟩,tt0⟩
        ⟨⟨_,rfl,.CJ (by rw[hst]) Ai⟩,tt0⟩ rfl (by simp only[wfL,wfs];rfl)⟩
      ·have hml:m=l.length:=by omega
       subst hml;exact Ag (Cu (l:=[(10,AD (nbs (EU l t q l.length y))),(11,AI 0)]) (b:=[]) (fun n=>n) [44] hS) Bg
theorem QK (l:List Nb) (slot age:Int) (h:checkNb l=0/\0<=slot/\0<=age):Ak 151 [AD (nbs l),AI slot,AI age] (AD (nbs (kept l slot age))):=by
 obtain⟨hlen,_⟩:=Bu h.1;have hck:=CQ l;rw[h.1] at hck;have h2:=h.2.1;have h3:=h.2.2;have d1:decide (slot<0)=false:=by simp;omega
 have d2:decide (age<0)=false:=by simp;omega
 refine Ao func151 ntmps151 results151 fun E hS=>?_
 refine AG ?_
 repeat'(first|refine Af ?_|refine Aa (hck) ?_|fail)
 refine Ax (ι:=Nat) (fun k=>AN [(0,AD (nbs l)),(1,AI slot),(2,AI age),(7,.c (.row 44 (kept (l.take k) slot age).length)),(8,AI k)] [(44,.row 93 6 (rowOf Nb.enc (kept (l.take k) slot age)))])
  (fun k=>k<=l.length) (fun k=>l.length-k) 0 (Ake _) ?_ ?_
 ·exact(le_nil (t:=7) (nm:=44) (T:=93) (sz:=6) rfl rfl).trans (By ⟨rfl,rfl,rfl,rfl,rfl,tt0⟩ ⟨rfl,tt0⟩ rfl)
 ·intro k hk;have hkl:=AbB (l.take k) slot age;rw[AjD] at hkl
  repeat'(first|refine Af ?_|refine Ap ?_|refine F2 rfl rfl rfl rfl rfl ?_|(refine Av ?_ ?_<;>intro h hq)|fail)
  ·have hks:=Ri l slot age (k:=k) (by omega);rw[Akb (by simp only[Aek,Ajw];omega)] at hks;refine⟨k+1,by omega,by omega,A0 (fun n=>if n=44 then 42 else n) ⟨⟨_,rfl,.c .d⟩,⟨_,rfl,.c .d⟩,⟨_,rfl,.c .d⟩,⟨_,rfl,.c (.row rfl ?_)⟩,⟨_,rfl,.c .d⟩,tt0⟩
    ⟨⟨_,rfl,.CJ ?_ Ai⟩,tt0⟩ rfl (by simp only[wfL,wfs];rfl)⟩
   ·rw[hks,Ajy];rfl
   ·rw[hks,AF];rfl
  ·have hks:=Ri l slot age (k:=k) (by omega);rw[Akc (by simp only[Aek,Ajw];omega)] at hks;refine⟨k+1,by omega,by omega,A0 (fun n=>n) ⟨⟨_,rfl,.c .d⟩,⟨_,rfl,.c .d⟩,⟨_,rfl,.c .d⟩,⟨_,rfl,.c (.row rfl (by rw[hks]))⟩,⟨_,rfl,.c .d⟩,tt0⟩
    ⟨⟨_,rfl,.CJ (by rw[hks]) Ai⟩,tt0⟩ rfl (by simp only[wfL,wfs];rfl)⟩
  ·have e:l.take k=l:=Aj1 (by omega);rw[e];exact Ag (Cu (l:=[(6,AD (nbs (kept l slot age)))]) (b:=[]) (fun n=>n) [44] hS) CV
theorem Tp (l:List Nb) (t:Int) (b:Bool) (h:checkNb l=0) (hf:BD l t=true):Ak 102 [AD (nbs l),AI t,AB b] (.tup [AD (nbs (l.set (CG l t) (cnt (l.getD (CG l t) default) b))),AI 0]):=by
 obtain⟨hlen,hall⟩:=Bu h;have hck:=CQ l;rw[h] at hck;have hix:=CP l t;rw[HO h,Akc hf] at hix;have hi:=(BP.1 hf).1;have hx:=(CT (hall _ hi)).2;generalize CG l t=i at *;have hix':Ak 150 [AD (nbs l),AI t] (AI (i:Nat)):=hix;refine Ao func102 ntmps102 results102 fun E hS=>?_
 refine AG ?_
 repeat'(first|refine AJ ?_|refine Aa (hck) ?_|refine Aa (hix') ?_|refine Ap ?_|refine sq 7 rfl ?_|fail)
 all_goals try (exfalso;omega)
 refine VC.le (A0 (l:=[(2,AB b),(8,AI (i:Nat)),(9,.c (.row 7 l.length))]) (b:=[(7,.row 93 6 (rowOf Nb.enc l))]) (fun n=>if n=7 then 21 else n) ⟨⟨_,rfl,.c .d⟩,⟨_,rfl,.c .d⟩,⟨_,rfl,.c (.row rfl (by simp))⟩,tt0⟩
  ⟨⟨_,rfl,.CJ ((Akp _).trans (Dr (enc:=Nb.enc) (sz:=6) fun _=>rfl)) Ai⟩,tt0⟩ rfl (by simp only[wfL,wfs];rfl)) ?_
 repeat'(first|refine Ad ?_|refine AS ?_|refine Cn (gk rfl) rfl rfl (by omega) rfl rfl rfl ?_|refine AY ?_|(refine Av ?_ ?_<;>intro h hq)|fail)
 all_goals
  refine GR (A0 (l:=[(6,.c (.row 7 (l.set i (cnt (l.getD i default) b)).length)),(7,AI 0)]) (b:=[(7,.row 93 6 (rowOf Nb.enc (l.set i (cnt (l.getD i default) b))))]) (fun n=>n) ⟨⟨_,rfl,.c (.row rfl (by simp))⟩,⟨_,rfl,.c .d⟩,tt0⟩
   ⟨⟨_,rfl,.CJ (CC ?_) Ai⟩,tt0⟩ rfl (by simp only[wfL,wfs];rfl)) ?_
 all_goals first
  |(show retL _ _ _ _
    refine Ag (DL (l:=[(6,AD (nbs (l.set i (cnt (l.getD i default) b)))),(7,AI 0)]) (b:=[]) (fun n=>n) [7] hS ?_ ?_ rfl (by first|rfl|(simp only[wfL,wfs];rfl))) Bg
    all_goals repeat'(first|exact tt0|refine⟨⟨_,rfl,?_⟩,?_⟩|exact .c .d|exact .c (.Bm (by first|(simp;done)|decide) rfl rfl (fun _=>rfl))|fail)
    done)
  |(generalize l.getD i default=x at *
    simp[cnt,Nb.enc,EJ, *])
theorem Aa6 (l:List Nb) (t e k s:Int) (h:checkNb l=0):∃d:D,((hearM l t e k s).2=0->d=nbs (hearM l t e k s).1)/\Ak 101 [AD (nbs l),AI t,AI e,AI k,AI s] (.tup [AD d,AI (hearM l t e k s).2]):=by
 unfold hearM;rw[Akb (fun hn=>hn h)];cases hr:C5 t e k s with
 |false=>
  rw[Akc rfl];exact⟨_,(fun hn=>by cases hn),QJ l t e k s h hr⟩
 |true=>
  rw[Akb (by simp)];by_cases hs:s<(HP l t).slot
  ·rw[Akc hs];exact⟨_,(fun hn=>by cases hn),Tn l t e k s h hr hs⟩
  ·rw[Akb hs];have:=Wr l t e k s h hr hs;rw[AbJ h] at this;exact⟨_,(fun _=>rfl),this⟩
theorem Yr (l:List Nb) (t:Int) (b:Bool) (h:checkNb l=0):∃d:D,((countM l t b).2=0->d=nbs (countM l t b).1)/\Ak 102 [AD (nbs l),AI t,AB b] (.tup [AD d,AI (countM l t b).2]):=by
 unfold countM;rw[Akb (fun hn=>hn h)];cases hf:BD l t with
 |false=>
  rw[Akc rfl];exact⟨_,(fun hn=>by cases hn),QL l t b h hf⟩
 |true=>
  rw[Akb (by simp)];exact⟨_,(fun _=>rfl),Tp l t b h hf⟩
theorem Wl (l:List Nb) (slot:Int) (h:checkNb l=0) (hs:0<=slot):Ak 151 [AD (nbs l),AI slot,AI 256] (AD (nbs (forgetM l slot 256))):=by
 have e:forgetM l slot 256=kept l slot 256:=Akc ⟨h,hs,by omega⟩;rw[e];exact QK l slot 256 ⟨h,hs,by omega⟩
end Go.Proofs.P
namespace Go.Proofs.M
open Go Go.Sx Go.Proofs Go.Proofs.T Go.Proofs.Q
open Go.Proofs.P (Nb nbs Rk rkA rkErr checkNb hearM countM forgetM select')
attribute [local irreducible] VR VC thenQ blockQ retL
theorem Aha {l:List Ar} {p:Ar->Bool} {k:Nat} (hk:k<l.length) (h:p (l.getD k default)=true):l.any p=true:=AjM.2 ⟨_,BS hk,h⟩
theorem O3 (l:List Ar) (data:ByteArray) (slot:Int) (hd:data.size=3) (hl:l.length<=4096):Ak 103 [AD (ars l),AD (.str data),AI slot] (AD (ars (DR l data slot))):=by
 have b0:=Gh data 0;have b1:=Gh data 1;have b2:=Gh data 2;refine Ao func103 ntmps103 results103 fun E hS=>?_
 refine AG ?_
 repeat'(first|refine AJ ?_|refine Da (m:=0) (gk rfl) rfl rfl rfl (by decide) (by omega) rfl rfl ?_|refine Da (gk rfl) rfl rfl rfl (by omega) (by omega) (by first|exact(Ale _).symm|rfl) rfl ?_|refine A7 ?_|refine C3 (gk rfl) rfl ⟨_,rfl⟩ rfl rfl ?_|refine F2 rfl rfl rfl rfl rfl ?_|refine sq 2 rfl ?_|fail)
 refine VC.le (σ':=AN [(0,AD (ars l)),(7,.c (.ptr 7 0))] [(7,.box (Xw data slot).cs)]) ?_ ?_
 ·have ek:IntKind.i64.wrap (IntKind.i64.wrap (256*IntKind.i64.wrap (bAt data 1))+IntKind.i64.wrap (bAt data 2))=256*bAt data 1+bAt data 2:=by
   rw[wrap_i64 (a:=bAt data 1) (by omega),wrap_i64 (a:=bAt data 2) (by omega),wrap_i64 (a:=256*bAt data 1) (by omega),wrap_i64 (by omega)]
  show Le _ _ (AN _ [(7,.box [.d (.int .i64 (bAt data 0)),.d (.int .i64 (256*bAt data 1+bAt data 2)),.d (.int .i64 slot)])]);rw[<-ek];exact Al
 generalize hy:Xw data slot=y;have harr:DR l data slot=if(l.any fun x=>decide (x.origin=y.origin)&&decide (x.id=y.id))=true then l else if 4096<=l.length then l else l++[y]:=by
  rw[<-hy];rfl
 rw[harr];clear harr hy b0 b1 b2
 repeat'(first|refine Af ?_|fail)
 refine Ax (ι:=Nat) (fun k=>AN [(0,AD (ars l)),(7,.c (.ptr 7 0)),(8,AI k)] [(7,.box y.cs)]) (fun k=>k<=l.length/\∀i,i<k->(decide ((l.getD i default).origin=y.origin)&&decide ((l.getD i default).id=y.id))=false) (fun k=>l.length-k) 0 ⟨Ake _,fun i hi=>absurd hi (Aj9 _)⟩ ?_ ?_
 ·exact Al
 ·rintro k ⟨hk,hall⟩;by_cases hc:k<l.length
  ·have hdd:=Cz k l.length;have hmiss:(decide ((l.getD k default).origin=y.origin)&&decide ((l.getD k default).id=y.id))=false->∀i,i<k+1->(decide ((l.getD i default).origin=y.origin)&&decide ((l.getD i default).id=y.id))=false:=fun h i hi=>by
    by_cases h2:i<k
    ·exact hall i h2
    ·have:i=k:=by omega
     subst this;exact h
   clear hall;by_cases h1:(l.getD k default).origin=y.origin
   ·have d1:=Aju h1;by_cases h2:(l.getD k default).id=y.id
    ·have d2:=Aju h2;rw[Akc (Aha hc (by rw[d1,d2];rfl))]
     repeat'(first|refine Af ?_|fail)
     exact Ag (Al (l:=[(6,AD (ars l))]) (b:=[])) CV
    ·have d2:=Ajv h2;have hm:=hmiss (by rw[d1,d2];rfl)
     repeat'(first|refine Af ?_|fail)
     refine⟨k+1,⟨by omega,hm⟩,by omega,?_⟩;exact Al
   ·have d1:=Ajv h1;have hm:=hmiss (by rw[d1];rfl)
    repeat'(first|refine Af ?_|fail)
    refine⟨k+1,⟨by omega,hm⟩,by omega,?_⟩;exact Al
  ·have hdd:=CM k l.length;have hno:¬(l.any fun x=>decide (x.origin=y.origin)&&decide (x.id=y.id))=true:=by
    rw[Aj7,AjN];intro x hx;obtain⟨i,hi,rfl⟩:=CI hx;rw[hall i (by omega)];exact Aj6
   rw[Akb hno];clear hall hno;by_cases h4:4096<=l.length
   ·have d4:=Es (4096<=(l.length:Int));rw[Akc h4]
    repeat'(first|refine Ad ?_|fail)
    exact Ag (Al (l:=[(6,AD (ars l))]) (b:=[])) CV
   ·have d4:=Cc (4096<=(l.length:Int));rw[Akb h4]
    repeat'(first|refine Ad ?_|refine Ap ?_|fail)
    refine GR (σ1:=AN [(6,.c (.row 56 (l++[y]).length))] [(56,.row 62 3 (rowOf Ar.enc (l++[y])))]) ?_ ?_
    ·rw[Ajy];refine A0 (fun n=>n) ?_ ?_ rfl (by first|rfl|(simp only[wfL,wfs,AA,Az];rfl))
     all_goals repeat'(first|exact tt0|refine⟨⟨_,rfl,?_⟩,?_⟩|(refine .c (.row rfl ?_);((try dsimp only);first|rfl|omega|(simp only[lns]<;>omega));done)|fail)
     exact .CJ (by
      rw[AF];exact congrArg (·++_) ((Akp _).trans (Dr (enc:=Ar.enc) (sz:=3) fun _=>rfl))) Ai
    exact Ag (Cu (l:=[(6,AD (ars (l++[y])))]) (b:=[]) (fun n=>n) [56] hS) CV
def mpK (f:Pk->Pk) (l:List Pk) (k:Nat):List Pk:=(l.take k).map f++l.drop k
theorem TD (f:Pk->Pk) (l:List Pk) (k:Nat):(mpK f l k).length=l.length:=by simp[mpK];omega
theorem YW {f:Pk->Pk} {l:List Pk} {k:Nat} (hk:k<l.length):(mpK f l k).getD k default=l.getD k default:=by
 have hl:((l.take k).map f).length=k:=by simp;omega
 unfold mpK;rw[Ajt,AkE (by omega),hl,Ak2,AkI,AkX,Ajt]
theorem YV {f:Pk->Pk} {l:List Pk} {k:Nat} (hk:k<l.length):(mpK f l k).set k (f (l.getD k default))=mpK f l (k+1):=by
 have hl:((l.take k).map f).length=k:=by simp;omega
 unfold mpK;rw[List.set_append_right _ _ (by omega),hl,Ak2,drop_cons hk,List.set_cons_zero,Bq hk,Akl,AjP]
 rfl
theorem Abu {f:Pk->Pk} {l:List Pk} {k:Nat} (hk:k<l.length) (h:f (l.getD k default)=l.getD k default):mpK f l (k+1)=mpK f l k:=by
 rw[<-YV hk,h];have e:=YW (f:=f) hk;rw[<-e];have hk2:k<(mpK f l k).length:=by rw[TD];exact hk
 rw[Ajt,AjC hk2];exact List.set_getElem_self hk2
def NA (old new:Int) (p:Pk):Pk:=if p.to=old/\0<=old then{p with to:=new} else p
theorem Abd {old new:Int} (h:old<0) (l:List Pk):l.map (NA old new)=l:=by
 have:NA old new=id:=by
  funext p
  exact Akb (by omega)
 rw[this,List.map_id]
theorem Abc {old new:Int} (h:0<=old):NA old new=Ec old new:=by
 funext p
 unfold NA Ec;by_cases e:p.to=old
 ·rw[Akc ⟨e,h⟩,Akc e]
 ·rw[Akb (fun hh=>e hh.1),Akb e]
theorem Ad5 (l:List Nb) (r:Rk) (h:(select' l r 64).2.2=0):∃(r2:Rk) (ch:Bool),Ak 152 [AD (nbs l),rkA r,AI 64] (.tup [rkA r2,AB ch,AI 0])/\(select' l r 64).1=r2/\(select' l r 64).2.1=ch:=by
 have:=P.O5 l r 64;rw[h] at this;exact⟨_,_,this,rfl,rfl⟩
theorem Ny (x:MN) (slot:Int) (hnb:checkNb x.nb=0) (hs:0<=slot) (he:(select' (forgetM x.nb slot 256) x.rk 64).2.2=0) (hq:x.st.qu.Ab.length<=100000):Ak 104 [mnA x,AI slot] (mnA (D0 slot x)):=by
 have hf:=P.Wl x.nb slot hnb hs;obtain⟨r2,ch,hsl,e1,e2⟩:=Ad5 _ _ he;have hch:D0 slot x=if ch=false\/r2.parent<0\/x.rk.parent<0 then{x with nb:=forgetM x.nb slot 256,rk:=r2} else{x with nb:=forgetM x.nb slot 256,rk:=r2,st:={x.st with qu:=⟨x.st.qu.Be,x.st.qu.Ab.map (Ec x.rk.parent r2.parent)⟩}}:=by
  unfold D0;rw[Akb (fun hn=>hn he),e1,e2]
 rw[hch];clear hch he e1 e2;generalize forgetM x.nb slot 256=nb2 at *;obtain⟨⟨tb,⟨lim,l⟩,hds0,sns0,lst,sqn,tng,trs,bck,wat,sed⟩,rk,nb,nxt⟩:=x;dsimp only at *;refine Ao func104 ntmps104 results104 fun E hS=>?_
 refine AG ?_
 repeat'(first|refine AJ ?_|refine Aa (hf) ?_|refine Aa (hsl) ?_|refine sq 4 rfl ?_|fail)
 refine Gi [(2,.c (.ptr 2 0)),(4,.c (.ptr 4 0)),(5,AI rk.parent),(6,.c (.ptr 6 0)),(7,AB ch)] [(2,.box (MN.cs ⟨⟨tb,⟨lim,l⟩,hds0,sns0,lst,sqn,tng,trs,bck,wat,sed⟩,rk,nb2,nxt⟩)),(4,.box (MN.cs ⟨⟨⟨0,0,[]⟩,⟨0,[]⟩,[],[],0,0,0,0,0,0,0⟩,⟨0,0,0,0,0,0⟩,[],0⟩)),(6,.box r2.cs)] ?_
 repeat'(first|refine AJ ?_|refine sq 5 rfl ?_|fail)
 refine Gi [(2,.c (.ptr 2 0)),(4,.c (.ptr 4 0)),(5,AI rk.parent),(6,.c (.ptr 6 0)),(7,AB ch)] [(2,.box (MN.cs ⟨⟨tb,⟨lim,l⟩,hds0,sns0,lst,sqn,tng,trs,bck,wat,sed⟩,r2,nb2,nxt⟩)),(4,.box (MN.cs ⟨⟨⟨0,0,[]⟩,⟨0,[]⟩,[],[],0,0,0,0,0,0,0⟩,⟨0,0,0,0,0,0⟩,[],0⟩)),(6,.box r2.cs)] ?_;cases ch with
 |false=>
  rw[Akc (.inl rfl)]
  repeat'(first|refine Ad ?_|fail)
  exact Ag (Al (l:=[(4,.c (.ptr 4 0))]) (b:=[(4,.box (MN.cs ⟨⟨tb,⟨lim,l⟩,hds0,sns0,lst,sqn,tng,trs,bck,wat,sed⟩,r2,nb2,nxt⟩))])) Ay
 |true=>
  by_cases h1:r2.parent<0
  ·have d1:=Aju h1;rw[Akc (.inr (.inl h1))]
   repeat'(first|refine Ad ?_|fail)
   exact Ag (Al (l:=[(4,.c (.ptr 4 0))]) (b:=[(4,.box (MN.cs ⟨⟨tb,⟨lim,l⟩,hds0,sns0,lst,sqn,tng,trs,bck,wat,sed⟩,r2,nb2,nxt⟩))])) Ay
  ·have d1:=Ajv h1;have hfin:(if true=false\/r2.parent<0\/rk.parent<0 then⟨⟨tb,⟨lim,l⟩,hds0,sns0,lst,sqn,tng,trs,bck,wat,sed⟩,r2,nb2,nxt⟩ else⟨⟨tb,⟨lim,l.map (Ec rk.parent r2.parent)⟩,hds0,sns0,lst,sqn,tng,trs,bck,wat,sed⟩,r2,nb2,nxt⟩:MN)=⟨⟨tb,⟨lim,mpK (NA rk.parent r2.parent) l l.length⟩,hds0,sns0,lst,sqn,tng,trs,bck,wat,sed⟩,r2,nb2,nxt⟩:=by
    have e:mpK (NA rk.parent r2.parent) l l.length=l.map (NA rk.parent r2.parent):=by simp[mpK]
    rw[e];by_cases h2:rk.parent<0
    ·rw[Akc (.inr (.inr h2)),Abd h2]
    ·rw[Akb (by rintro(h|h|h);cases h;exact h1 h;exact h2 h),Abc (by omega)]
   rw[hfin];clear hfin;generalize ho:rk.parent=old
   repeat'(first|refine AJ ?_|refine Ap ?_|refine sq 8 rfl ?_|fail)
   refine VC.le (σ':=AN [(2,.c (.ptr 2 0)),(4,.c (.ptr 4 0)),(5,AI old),(6,.c (.ptr 6 0)),(9,.c (.row 109 l.length))] [(2,.box (MN.cs ⟨⟨tb,⟨lim,l⟩,hds0,sns0,lst,sqn,tng,trs,bck,wat,sed⟩,r2,nb2,nxt⟩)),(4,.box (MN.cs ⟨⟨⟨0,0,[]⟩,⟨0,[]⟩,[],[],0,0,0,0,0,0,0⟩,⟨0,0,0,0,0,0⟩,[],0⟩)),(6,.box r2.cs),(109,.row 120 6 (rowOf Pk.enc l))]) ?_ ?_
   ·rw[<-ho];refine A0 (fun n=>if n=109 then 43 else n) ?_ ?_ rfl (by first|rfl|(simp only[wfL,wfs,AA,Az];rfl))
    all_goals repeat'(first|exact tt0|refine⟨⟨_,rfl,?_⟩,?_⟩|exact .c .d|exact .c (.ptr rfl)|(refine .c (.row rfl ?_);((try dsimp only);first|rfl|omega|(simp only[lns]<;>omega));done)|exact .FA rfl rfl|fail)
    exact .CJ ((Akp _).trans (Dr (enc:=Pk.enc) (sz:=6) fun _=>rfl)) Ai
   repeat'(first|refine Af ?_|fail)
   refine Ax (ι:=Nat) (fun k=>AN [(2,.c (.ptr 2 0)),(4,.c (.ptr 4 0)),(5,AI old),(6,.c (.ptr 6 0)),(9,.c (.row 109 (mpK (NA old r2.parent) l k).length)),(10,AI k)] [(2,.box (MN.cs ⟨⟨tb,⟨lim,l⟩,hds0,sns0,lst,sqn,tng,trs,bck,wat,sed⟩,r2,nb2,nxt⟩)),(4,.box (MN.cs ⟨⟨⟨0,0,[]⟩,⟨0,[]⟩,[],[],0,0,0,0,0,0,0⟩,⟨0,0,0,0,0,0⟩,[],0⟩)),(6,.box r2.cs),(109,.row 120 6 (rowOf Pk.enc (mpK (NA old r2.parent) l k)))])
    (fun k=>k<=l.length) (fun k=>l.length-k) 0 (Ake _) ?_ ?_
   ·rw[show mpK (NA old r2.parent) l 0=l from rfl];exact Al
   ·intro k hk;have hL:=TD (NA old r2.parent) l k;have hL2:=TD (NA old r2.parent) l (k+1);by_cases hc:k<l.length
    ·have hd:=Cz k l.length;have hget:=YW (f:=NA old r2.parent) hc;have hset:=YV (f:=NA old r2.parent) hc;have hsame:=Abu (f:=NA old r2.parent) hc;have hd2:=Es ((k:Int)<((mpK (NA old r2.parent) l k).length:Int));generalize mpK (NA old r2.parent) l k=L at *;generalize hG:mpK (NA old r2.parent) l (k+1)=L2 at *;rw[<-hget] at hset hsame;by_cases c1:(L.getD k default).to=old
     ·have g1:=Aju c1;by_cases c2:0<=old
      ·have g2:=Aju c2;have e3:NA old r2.parent (L.getD k default)={L.getD k default with to:=r2.parent}:=Akc ⟨c1,c2⟩;rw[e3] at hset
       repeat'(first|refine Af ?_|refine AS ?_|refine AQ ?_|refine BY (gk rfl) rfl rfl (by omega) rfl rfl rfl ?_|refine AY ?_|fail)
       refine BU (k+1) ?_;rw[hG,hL2,<-hset];exact Al
      ·have g2:=Ajv c2;have e3:=hsame (Akb (fun h=>c2 h.2))
       repeat'(first|refine Af ?_|refine AS ?_|refine AQ ?_|refine BY (gk rfl) rfl rfl (by omega) rfl rfl rfl ?_|fail)
       refine BU (k+1) ?_;rw[hG,e3];exact Al
     ·have g1:=Ajv c1;have e3:=hsame (Akb (fun h=>c1 h.1))
      repeat'(first|refine Af ?_|refine AS ?_|refine AQ ?_|refine BY (gk rfl) rfl rfl (by omega) rfl rfl rfl ?_|fail)
      refine BU (k+1) ?_;rw[hG,e3];exact Al
    ·have hd2:=Cc ((k:Int)<((mpK (NA old r2.parent) l k).length:Int));rw[show k=l.length by omega] at hd2 hL ⊢;generalize mpK (NA old r2.parent) l l.length=L at *
     repeat'(first|refine Ad ?_|refine AQ ?_|fail)
     exact Ag (Cu (l:=[(4,.c (.ptr 4 0))]) (b:=[(4,.box (MN.cs ⟨⟨tb,⟨lim,L⟩,hds0,sns0,lst,sqn,tng,trs,bck,wat,sed⟩,r2,nb2,nxt⟩))]) (fun n=>n) [109] hS) Ay
end Go.Proofs.M
