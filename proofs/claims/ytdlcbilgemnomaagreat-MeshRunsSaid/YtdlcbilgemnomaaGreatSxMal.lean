/-
  Functions' results, and laws on them. No condition.
-/
import Derived.Test.YtdlcbilgemnomaaGreatSxMah
import Derived.Test.YtdlcbilgemnomaaGreatSxMai
set_option linter.unusedSimpArgs false
set_option linter.unusedVariables false
set_option maxRecDepth 4000
set_option maxHeartbeats 16000000
open Go.Proofs.Tryz
namespace Go.Proofs.R
open Go Go.Sx Go.Proofs.P
attribute [local irreducible] VR VC thenQ blockQ retL
theorem L8 {P:Program} {σ:St} {t u v q nm:Nat} {T:TypeId} {ti:TyI} {cs cs':List C} {x x' y y' z z':D} {e:Exit} (he:e=.normal\/e=.ret) [ht:AT P T ti] (hx:σ (.s t)=some (.v (.c (.ptr nm 0)))) (hb:σ (.b nm)=some (.k (.box cs'))) (hagg:ti.isAgg=true)
  (hl:(cs'.take ti.size).length=ti.size) (hu:σ (.s u)=some (.v (AD x'))) (hv:σ (.s v)=some (.v (AD y'))) (hq:σ (.s q)=some (.v (AD z'))) (h:cs=cs'.take ti.size) (h2:x=x') (h3:y=y') (h4:z=z'):
  Gk P [.cell t T,.tmp u,.tmp v,.tmp q] (.tup [.agg cs,AD x,AD y,AD z]) [] e σ:=
 ⟨he,[.agg ((cs'.drop 0).take ti.size),AD x',AD y',AD z'],.agg hx hb hagg hl (.tmp rfl hu (.tmp rfl hv (.tmp rfl hq .nil))),by rw[h,h2,h3,h4];rfl,fun p hp=>by cases hp⟩
def startM (i:Int):Rk×Int:=if Dn i=false then(rkZ,2) else if i=0 then(⟨0,1,-1,0,0,65535⟩,0) else(⟨i,0,-1,65535,65535,65535⟩,0)
theorem H4 (i:Int):Ak 41 [AI i] (.tup [rkA (startM i).1,AI (startM i).2]):=by
 have hn:=P.Ew i;unfold startM;cases hb:Dn i with
 |false=>
  rw[hb] at hn;refine Ao func41 ntmps41 results41 fun E hS=>?_
  repeat'(first|refine Ad ?_|refine Aa (hn) ?_|fail)
  all_goals first|exact CO Ae rfl rfl rfl rfl rfl rfl rfl
 |true=>
  rw[hb] at hn;rw[Akb (by simp)];by_cases h0:i=0
  ·subst h0;refine Ao func41 ntmps41 results41 fun E hS=>?_
   repeat'(first|refine Ad ?_|refine Aa (hn) ?_|fail)
   exact CO Ae rfl rfl rfl rfl rfl rfl rfl
  ·rw[Akb h0];have d1:=Ajv h0;refine Ao func41 ntmps41 results41 fun E hS=>?_
   repeat'(first|refine Ad ?_|refine Aa (hn) ?_|fail)
   exact CO Ae rfl rfl rfl rfl rfl rfl rfl
def advM (r:Rk):Rk×Int×Int×Int:=if rkErr r≠0 then(rkZ,0,0,1) else if r.rank=65535 then(rkZ,0,0,12) else({r with least:=min r.least r.rank},r.epoch,r.rank,0)
theorem Aas (r:Rk):Ak 124 [rkA r] (.tup [rkA (advM r).1,AI (advM r).2.1,AI (advM r).2.2.1,AI (advM r).2.2.2]):=by
 refine Ao func124 ntmps124 results124 fun E hS=>?_
 repeat'(first|refine Ad ?_|refine Aa (DU r) ?_|(refine Av ?_ ?_<;>intro h hq)|fail)
 all_goals refine L8 Ae rfl rfl rfl rfl rfl rfl rfl ?_ ?_ ?_ ?_
 all_goals unfold advM
 all_goals repeat' split
 all_goals first|rfl|(exfalso;simp_all;done)|(exfalso;omega)|trace_state
end Go.Proofs.R
namespace Go.Proofs.R
open Go Go.Sx Go.Proofs.P
def Ahl (r:Rk) (e k:Int):Prop:=e<r.epoch\/(e=r.epoch/\r.least<=k)
def NM (r s:Rk):Prop:=r.epoch<s.epoch\/(r.epoch=s.epoch/\s.least<=r.least)
theorem Ahl.mono {r s:Rk} {e k:Int} (h:Ahl r e k) (m:NM r s):Ahl s e k:=by
 unfold Ahl NM at *;omega
theorem NM.refl (r:Rk):NM r r:=.inr ⟨rfl,Int.le_refl _⟩
theorem NM.trans {r s t:Rk} (h:NM r s) (m:NM s t):NM r t:=by
 unfold NM at *;omega
theorem Oc (r:Rk) (e:Int):NM r (BO r e):=by
 unfold BO NM
 split
 ·left;assumption
 ·exact .inr ⟨rfl,Int.le_refl _⟩
theorem Q2 (r:Rk):NM r (Gv r):=by
 unfold Gv
 split
 ·exact .inr ⟨rfl,Int.le_refl _⟩
 ·exact NM.refl r
theorem KL (r:Rk) (fr e k c:Int):NM r (CN r fr e k c):=Oc r e
def Aff (l:List Nb) (r s:Rk):Prop:=s.parent=-1\/(∃b,b<l.length/\(l.getD b default).node=s.parent/\(l.getD b default).epoch=s.epoch/\(l.getD b default).rank=s.heard)\/(s.parent=r.parent/\s.epoch=r.epoch/\s.heard=r.heard)
theorem Vp {l:List Nb} {s:Rk} {b:Nat} (r:Rk) (hb:b<l.length) (h:PW l s b):Aff l r (Jp l s b):=
 .inr (.inl ⟨b,hb,rfl,(IB (by have:=h.AbS;omega)).symm,rfl⟩)
theorem V7 {l:List Nb} (hl:checkNb l=0) {r:Rk} (hr:rkErr r=0) (hn:r.node≠0):NM r (CB l r)/\Aff l r (CB l r):=by
 by_cases hp:r.parent<0
 ·rw[LU hp];exact⟨NM.refl r,.inr (.inr ⟨rfl,rfl,rfl⟩)⟩
 by_cases hf:BD l r.parent=true
 ·obtain⟨hb,he⟩:=BP.1 hf;obtain⟨ha,_⟩:=DN hl hb;rw[OT hl hb he.symm];obtain⟨_,h⟩:=KG hr (by omega) ha (GD hl hb);rcases h with⟨_,h⟩|⟨_,hc,h⟩|⟨_,h⟩
  ·rw[h];exact⟨NM.refl r,.inr (.inr ⟨rfl,rfl,rfl⟩)⟩
  ·rw[h];have hc':PW l r (CG l r.parent):=by unfold PW;rw[he];exact hc
   have e:CN r r.parent (l.getD (CG l r.parent) default).epoch (l.getD (CG l r.parent) default).rank (JZ (l.getD (CG l r.parent) default).att (l.getD (CG l r.parent) default).ack)=Jp l r (CG l r.parent):=by
    unfold Jp;rw[he]
   rw[e];exact⟨KL _ _ _ _ _,Vp r hb hc'⟩
  ·rw[h];rw[E1] at ha;have hb':=O1 hr ha.1 (show r.parent≠-1 by omega);exact⟨(Oc _ _).trans (Q2 _),.inl (G4 hb')⟩
 ·have e:CB l r=Gv r:=by unfold CB;rw[Akc (by omega),Akb hf]
  rw[e];exact⟨Q2 r,.inl (G4 hr)⟩
theorem LX {l:List Nb} (hl:checkNb l=0) {r:Rk} (hr:rkErr r=0) {m:Int} (hm:0<=m/\m<=65535):
  (select' l r m).2.2=0/\rkErr (select' l r m).1=0/\(select' l r m).1.node=r.node/\NM r (select' l r m).1/\Aff l r (select' l r m).1:=by
 have hm':inR m 0 65535=true:=by rw[CZ];exact hm
 by_cases hn:r.node=0
 ·have e:select' l r m=(r,false,0):=by
   unfold select';rw[Akb (by simp[hl,hr]),Akb (by simp[hm']),Akc hn]
  rw[e];exact⟨rfl,hr,rfl,NM.refl r,.inr (.inr ⟨rfl,rfl,rfl⟩)⟩
 ·have e:select' l r m=(IE l (CB l r) m,decide ((IE l (CB l r) m).parent≠r.parent),0):=by
   unfold select';rw[Akb (by simp[hl,hr]),Akb (by simp[hm']),Akb hn]
  have hA:=I6 hl hr hn;have hF:=V7 hl hr hn;have hs:=X4 hl hr hn hm;rw[e];refine⟨rfl,hs.right,hs.node,?_⟩;dsimp only;by_cases ht:LR l (CB l r) m=true
  ·obtain⟨b,_,hbl,_,hc,he,_⟩:=Kf hl ht;rw[he];exact⟨hF.1.trans (KL _ _ _ _ _),Vp r hbl hc⟩
  ·have e2:IE l (CB l r) m=CB l r:=by unfold IE;rw[Akb ht]
   rw[e2];exact hF
structure Wk where
 r:Rk
 l:List Nb
 deriving Inhabited
structure Sd where
 nd:Nat
 slot:Nat
 rk:Nat
 ep:Nat
 deriving Inhabited
structure Dd where
 kind:Int
 node:Int
 Ac0:Int
 slot:Int
 deriving Inhabited
def AcV (L:List Wk) (p e k:Int):Prop:=∃j:Nat,j<L.length/\p=j/\Ahl (L.getD j default).r e k
structure NL (L:List Wk) (said:List Sd) (slot:Int):Prop where
 node:∀i,i<L.length->(L.getD i default).r.node=i
 rk:∀i,i<L.length->rkErr (L.getD i default).r=0
 nb:∀i,i<L.length->checkNb (L.getD i default).l=0
 BK:∀i,i<L.length->∀x∈(L.getD i default).l,x.slot<=slot
 ad:∀i,i<L.length->∀x∈(L.getD i default).l,AcV L x.node x.epoch x.rank
 sd:∀s∈said,AcV L s.nd s.ep s.rk/\(1<=s.ep/\s.ep<=65535)/\s.rk<=65534/\(s.slot:Int)<=slot
 par:∀i,i<L.length->(L.getD i default).r.parent≠-1->AcV L (L.getD i default).r.parent (L.getD i default).r.epoch (L.getD i default).r.heard
theorem Acq {L:List Wk} {i j:Nat} {w:Wk} (hi:i<L.length):(L.set i w).getD j default=if j=i then w else L.getD j default:=by
 by_cases h:j=i
 ·subst h;simp[Ajt,hi]
 ·simp[Ajt,h,AjR (Ne.symm h)]
theorem AcV.set {L:List Wk} {i:Nat} {w:Wk} (hi:i<L.length) (hm:NM (L.getD i default).r w.r) {p e k:Int} (h:AcV L p e k):AcV (L.set i w) p e k:=by
 obtain⟨j,hj,hp,ha⟩:=h;refine⟨j,by rw[AjJ];exact hj,hp,?_⟩;rw[Acq hi]
 split
 ·rename_i e;subst e;exact ha.mono hm
 ·exact ha
structure Ajp (L:List Wk) (slot:Int) (i:Nat) (w:Wk):Prop where
 node:w.r.node=i
 rk:rkErr w.r=0
 nb:checkNb w.l=0
 BK:∀x∈w.l,x.slot<=slot
 ad:∀x∈w.l,AcV L x.node x.epoch x.rank
 mono:NM (L.getD i default).r w.r
 par:w.r.parent≠-1->AcV L w.r.parent w.r.epoch w.r.heard
theorem NL.set {L:List Wk} {said:List Sd} {slot slot2:Int} (h:NL L said slot) (hs:slot<=slot2) {i:Nat} (hi:i<L.length) {w:Wk} (g:Ajp L slot2 i w):NL (L.set i w) said slot2:=by
 refine⟨fun j hj=>?_,fun j hj=>?_,fun j hj=>?_,fun j hj=>?_,fun j hj=>?_,fun s hs2=>?_,fun j hj=>?_⟩
 all_goals try rw[AjJ] at hj
 all_goals try rw[Acq hi]
 ·split
  ·rename_i e;subst e;exact g.node
  ·exact h.node j hj
 ·split
  ·exact g.rk
  ·exact h.rk j hj
 ·split
  ·exact g.nb
  ·exact h.nb j hj
 ·split
  ·exact g.BK
  ·exact fun x hx=>Int.le_trans (h.BK j hj x hx) hs
 ·split
  ·exact fun x hx=>(g.ad x hx).set hi g.mono
  ·exact fun x hx=>(h.ad j hj x hx).set hi g.mono
 ·obtain⟨h1,h2,h3,h4⟩:=h.sd s hs2;exact⟨h1.set hi g.mono,h2,h3,Int.le_trans h4 hs⟩
 ·split
  ·exact fun hp=>(g.par hp).set hi g.mono
  ·exact fun hp=>(h.par j hj hp).set hi g.mono
theorem BS {l:List Nb} {i:Nat} (h:i<l.length):l.getD i default∈l:=by
 rw[Ajt,AjC h];exact AjZ h
theorem YY {l:List Nb} {t e k s:Int} {x:Nb} (h:x∈K3 l t e k s):x∈l\/(x.node=t/\x.epoch=e/\x.rank=k/\x.slot=s):=by
 unfold K3 at h;cases hf:BD l t with
 |true=>
  rw[hf] at h;simp only[if_true] at h;rcases Alc h with h|h
  ·exact .inl h
  ·subst h;exact .inr ⟨(BP.1 hf).2,rfl,rfl,rfl⟩
 |false=>
  rw[hf] at h;simp only[Akr,if_false,P.BA] at h;rcases List.mem_append.1 h with h|h
  ·exact .inl (Akj h)
  ·rcases AjO.1 h with h|h
   ·subst h;exact .inr ⟨rfl,rfl,rfl,rfl⟩
   ·exact .inl (Akz h)
theorem WQ {l:List Nb} (h:checkNb l=0) (slot age:Int):checkNb (kept l slot age)=0:=by
 obtain⟨hlen,hall⟩:=Bu h;have hle:(kept l slot age).length<=l.length:=Aj4 ..;have hmem:∀k,k<(kept l slot age).length->(kept l slot age).getD k default∈l:=fun k hk=>(Aj3.1 (BS hk)).1
 have hpw:l.Pairwise fun a b=>a.node<b.node:=by
  rw[List.pairwise_iff_getElem];intro a b ha hb hab;have:=Jg h hab hb;simpa [Ajt,ha,hb] using this
 have hpk:(kept l slot age).Pairwise fun a b=>a.node<b.node:=hpw.filter _
 refine PH (by omega) (fun k hk=>?_) (fun k h0 hk=>?_)
 ·obtain⟨j,hj,e⟩:=AjY.1 (hmem k hk);have:=CT (hall j hj);rw[show l.getD j default=(kept l slot age).getD k default by rw[Ajt,AjC hj];exact e] at this;exact this
 ·rw[List.pairwise_iff_getElem] at hpk;have:=hpk (k-1) k (by omega) hk (by omega);simpa [Ajt,hk,show k-1<(kept l slot age).length by omega] using this
theorem Sg {r:Rk} (h:rkErr r=0) (hk:r.rank≠65535):(advM r).2.2.2=0/\(advM r).1={r with least:=min r.least r.rank}/\(1<=r.epoch/\r.epoch<=65535)/\0<=r.rank/\r.rank<=65534/\rkErr (advM r).1=0:=by
 obtain⟨h1,h2,h3,h4⟩:=Td h;have e:advM r=({r with least:=min r.least r.rank},r.epoch,r.rank,0):=by
  unfold advM;rw[Akb (by simp[h]),Akb hk]
 rw[e];simp only[CZ] at h2;simp only[FK,Aks,AjE,Ajw,CZ] at h3;by_cases h0:r.node=0
 ·have h4':=h4;unfold Fg at h4;rw[Akc h0] at h4;simp only[AjE,Ajw,Aks] at h4;refine⟨rfl,rfl,by omega,by omega,by omega,Yi h1 (by rw[CZ];exact h2) ?_ ?_⟩
  ·simp only[FK,Aks,AjE,Ajw,CZ]
   right;omega
  ·unfold Fg;rw[Akc h0];simp only[AjE,Ajw,Aks];omega
 ·unfold Fg at h4;rw[Akb h0] at h4;by_cases hp:r.parent=-1
  ·rw[Akc hp] at h4;simp only[AjE,Ajw] at h4;exact absurd h4.1.2 hk
  ·rw[Akb hp] at h4;simp only[AjE,Ajw,ne_eq] at h4;refine⟨rfl,rfl,by omega,by omega,by omega,Yi h1 (by rw[CZ];exact h2) ?_ ?_⟩
   ·simp only[FK,Aks,AjE,Ajw,CZ]
    left;omega
   ·unfold Fg;rw[Akb h0,Akb hp];simp only[AjE,Ajw,ne_eq];refine⟨⟨⟨⟨⟨⟨h4.1.1.1.1.1.1,h4.1.1.1.1.1.2⟩,?_⟩,?_⟩,?_⟩,?_⟩,?_⟩<;>omega
end Go.Proofs.R
namespace Go.Proofs
open Go Go.Sx Go.Proofs.T Go.Proofs.Q
attribute [local irreducible] VR VC thenQ blockQ retL
theorem Hf {f:Fr} (h:okP f):Fk f=0:=(Fy f).2 h
theorem Fx {f:Fr} (h:¬okP f):Fk f=1:=by
 have h2:¬Fk f=0:=fun e=>h ((Fy f).1 e)
 unfold Fk at h2 ⊢
 split
 ·rename_i h3;rw[Akc h3] at h2;exact absurd rfl h2
 ·rfl
theorem Gp (n m:Int):Ak 266 [AI n,AI m] (AB (decide (0<=n/\n<=m))):=by
 refine Ao func266 ntmps266 results266 fun E hS=>?_
 repeat'(first|refine Ad ?_|(refine Av ?_ ?_<;>intro h hq)|fail)
 ·refine Aq Ae rfl ?_;exact decide_eq_decide.2 (by omega)
 ·refine Aq Ae rfl ?_;exact Ajv (by omega)
theorem Ed (f:Fr):Ak 195 [frA f] (AI (Fk f)):=by
 obtain⟨kind,source,target,list,seq,BR,number,err,slot,rank,epoch,data⟩:=f;refine Ao func195 ntmps195 results195 fun E hS=>?_
 by_cases k1:kind=1
 ·subst k1
  repeat'(first|refine Af ?_|refine Aa (Gp _ _) ?_|(refine Av ?_ ?_<;>intro h hq<;>try simp only[hqs] at hq)|fail)
  all_goals first
   |(refine Aw Ae rfl (Fx ?_)
     dsimp only [okP,inP,SR];rintro⟨h0,h|h|h|h⟩<;>omega)
   |(refine Aw Ae rfl (Hf ?_)
     dsimp only [okP,inP,SR];exact⟨⟨by assumption,by assumption,by assumption⟩,.inl ⟨rfl,⟨by omega,by omega,by assumption⟩,by assumption,by assumption,by omega,by omega,by omega,by omega⟩⟩)
 by_cases k2:kind=2
 ·subst k2
  repeat'(first|refine Af ?_|refine P8 (gk rfl) rfl rfl rfl rfl ?_|refine Aa (Gp _ _) ?_|(refine Av ?_ ?_<;>intro h hq<;>try simp only[hqs] at hq)|fail)
  all_goals first
   |(refine Aw Ae rfl (Fx ?_)
     dsimp only [okP,inP,SR];rintro⟨h0,h|h|h|h⟩<;>omega)
   |(refine Aw Ae rfl (Fx ?_)
     dsimp only [okP,inP,SR];rintro⟨h0,h|h|h|h⟩<;>first|omega|exact absurd h.2.2.2.2.2.2.2.2 (by assumption))
   |(refine Aw Ae rfl (Hf ?_)
     dsimp only [okP,inP,SR];exact⟨⟨by assumption,by assumption,by assumption⟩,.inr (.inl ⟨rfl,⟨by omega,by omega,by assumption⟩,by omega,by omega,by omega,by omega,by omega,by omega,by assumption⟩)⟩)
 by_cases k3:kind=3
 ·subst k3
  repeat'(first|refine Af ?_|refine Aa (Gp _ _) ?_|(refine Av ?_ ?_<;>intro h hq<;>try simp only[hqs] at hq)|fail)
  all_goals first
   |(refine Aw Ae rfl (Fx ?_)
     dsimp only [okP,inP,SR];rintro⟨h0,h|h|h|h⟩<;>omega)
   |(refine Aw Ae rfl (Hf ?_)
     dsimp only [okP,inP,SR];exact⟨⟨by assumption,by assumption,by assumption⟩,.inr (.inr (.inl ⟨rfl,by omega,by assumption,by assumption,by assumption,by omega,by omega,by omega⟩))⟩)
 by_cases k4:kind=4
 ·subst k4
  repeat'(first|refine Af ?_|refine Aa (Gp _ _) ?_|(refine Av ?_ ?_<;>intro h hq<;>try simp only[hqs] at hq)|fail)
  all_goals first
   |(refine Aw Ae rfl (Fx ?_)
     dsimp only [okP,inP,SR];rintro⟨h0,h|h|h|h⟩<;>omega)
   |(refine Aw Ae rfl (Hf ?_)
     dsimp only [okP,inP,SR];exact⟨⟨by assumption,by assumption,by assumption⟩,.inr (.inr (.inr ⟨rfl,by omega,by omega,by omega,by omega,by omega,by omega,by omega⟩))⟩)
 have n1:(!decide (kind=1))=true:=by simp[k1]
 have n2:(!decide (kind=2))=true:=by simp[k2]
 have n3:(!decide (kind=3))=true:=by simp[k3]
 have n4:(!decide (kind=4))=true:=by simp[k4]
 repeat'(first|refine Ad ?_|fail)
 all_goals(refine Aw Ae rfl (Fx ?_))
 all_goals(dsimp only [okP,inP,SR];rintro⟨h0,h|h|h|h⟩<;>omega)
theorem Ey (f:Fr) (node:Int):Ak 201 [frA f,AI node] (AB (ML f node)):=by
 have hin:=Fy f;refine Ao func201 ntmps201 results201 fun E hS=>?_
 by_cases hc:Fk f=0
 ·have d1:=Aju hc;have hok:=hin.1 hc;have ht:-1<=f.target/\f.target<=31/\0<=f.source/\f.source<=31:=by
   obtain⟨h0,h⟩:=hok;unfold inP at h0;unfold SR at h;omega
  have e:ML f node=decide (0<=node/\node<=31/\(f.target=node\/f.target=-1/\f.source≠node)):=by rw[ML,d1];rfl
  rw[e];by_cases h1:f.target=node
  ·have d2:=Aju h1;by_cases h2:0<=node
   ·have d3:=Aju h2
    repeat'(first|refine Ad ?_|refine Aa (Ed f) ?_|fail)
    all_goals(refine Aq Ae rfl ?_;first|exact Aju (by omega)|exact Ajv (by omega))
   ·have d3:=Ajv h2
    repeat'(first|refine Ad ?_|refine Aa (Ed f) ?_|refine Aa (Gp _ _) ?_|(refine Av ?_ ?_<;>intro h hq)|fail)
    all_goals(refine Aq Ae rfl ?_;first|exact Aju (by omega)|exact Ajv (by omega)|exact decide_eq_decide.2 (by omega))
  ·have d2:=Ajv h1
   repeat'(first|refine Ad ?_|refine Aa (Ed f) ?_|refine Aa (Gp _ _) ?_|(refine Av ?_ ?_<;>intro h hq)|fail)
   all_goals(refine Aq Ae rfl ?_;first|exact Aju (by omega)|exact Ajv (by omega)|exact decide_eq_decide.2 (by omega))
 ·have d1:=Ajv hc
  repeat'(first|refine Ad ?_|refine Aa (Ed f) ?_|fail)
  refine Aq Ae rfl ?_;rw[ML,d1];rfl
end Go.Proofs
