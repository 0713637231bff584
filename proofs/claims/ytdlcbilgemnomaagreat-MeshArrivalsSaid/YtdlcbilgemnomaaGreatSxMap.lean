/-
  What functions of the program hand back, and plain laws on that. No condition.
-/
import Derived.Test.YtdlcbilgemnomaaGreatSxMao
import Derived.Test.YtdlcbilgemnomaaGreatSxMah
set_option linter.unusedSimpArgs false
set_option linter.unusedVariables false
section
namespace Go.Proofs.M
open Go Go.Sx Go.Proofs Go.Proofs.T Go.Proofs.Q
set_option maxRecDepth 4000
attribute [local irreducible] VR VC thenQ blockQ retL
abbrev Ahd (p:Ld->Bool):List DV->DV->Prop:=fun ds r=>∃x:Ld,ds=[.agg x.enc]/\r=.d (.bool (p x))
theorem Ahm (l:List Ld) (p:Ld->Bool):FnS Tryz.prog 59 [AD (lds l),.clo (Ahd p)] [] (AI (oI (Fs l p))) []:=by
 refine fb Tryz.func59 (by kernel_rfl) rfl Tryz.ntmps59 Tryz.results59 rfl rfl rfl rfl fun E hS=>?_
 refine B9 (t:=0) rfl fun hb=>?_
 repeat'(first|refine sC ?_|refine Ak rfl (by exact tt0) ?_|fail)
 refine AK (ι:=Nat) (fun k=>AS [(0,AD (lds l)),(1,.clo (Ahd p)),(7,AI l.length),(8,AI k)] []) (fun k=>k<=l.length/\∀i,i<k->p (l.getD i default)=false) (fun k=>l.length-k) 0 ⟨Ag1 _,fun i hi=>absurd hi (AgW _)⟩ ?_ ?_
 ·exact Ck ⟨rfl,rfl,rfl,rfl,trivial⟩ trivial rfl
 ·intro k hk
  repeat'(first|refine sC ?_|refine Ak rfl (by first|exact tt0|omega) ?_|(refine gC ?_;first|refine E2 (⟨_,rfl,rfl⟩) (gk rfl) rfl rfl rfl rfl ?_)|(refine gI ?_;first|refine Au (gk rfl) rfl rfl rfl rfl rfl (by omega) rfl ?_)|(refine gD ?_;first|(refine Ay rfl ?_ ?_<;>intro h<;>have hq:=h<;>(try simp only[hqs] at hq)))|fail)
  ·refine AG Ab rfl ?_;rw[Ey hk.2 (by omega) h];rfl
  ·refine⟨k+1,⟨by omega,fun i hi=>?_⟩,by omega,Ck ⟨rfl,rfl,rfl,rfl,trivial⟩ trivial rfl⟩;by_cases hik:i<k
   ·exact hk.2 i hik
   ·have:i=k:=by omega
    subst this;exact h
  ·refine AG Ab rfl ?_;have:k=l.length:=by omega
   subst this;rw[DR hk.2];rfl
theorem Ahe (l:List Ld) (p:Ld->Bool):FnS Tryz.prog 28 [AD (lds l),.clo (Ahd p)] [] (AB (l.any p)) []:=by
 refine fb Tryz.func28 (by kernel_rfl) rfl Tryz.ntmps28 Tryz.results28 rfl rfl rfl rfl fun E hS=>?_
 repeat'(first|refine sB ?_|refine Ak rfl (by exact tt0) ?_|(refine gC ?_;first|refine AF [] (Ahm l p) (gk rfl) rfl (by(repeat'(first|exact .nil|refine .cons ?_ ?_|exact .of0 (.c .d)|exact .clo))<;>fail) (by rfl) rfl (by rfl) rfl (by rfl) rfl ?_)|fail)
 all_goals exact Aw Ab rfl (E9 _ _).symm
def Ahf (y:Ar) (x:Ld):Bool:=decide (x.node=y.origin)&&decide (0<x.node)&&decide (x.slot<=y.slot)
theorem Ahl (x:Ld) (y:Ar):FnS Tryz.prog 29 [ldA x,.ep (fun j=>y.enc.getD j .Db) 3] [] (AB (Ahf y x)) []:=by
 refine fb Tryz.func29 (by kernel_rfl) rfl Tryz.ntmps29 Tryz.results29 rfl rfl rfl rfl fun E hS=>?_
 repeat'(first|refine sB ?_|refine Ak rfl (by exact tt0) ?_|(refine Ax rfl ?_ ?_<;>intro h<;>have hq:=h<;>(try simp only[hqs] at hq))|fail)
 all_goals(refine Aw Ab rfl ?_;unfold Ahf;first|rfl|(simp_all;done)|(simp_all;omega))
theorem Ahh {σ:St} {y:Ar} {n1:Nat} {L:List Nat} (hL:n1∈L) (h1:σ (.b n1)=some (.k (.box y.cs))):AR Tryz.prog σ L (.fnc 29 [.ptr n1 0]) (.clo (Ahd (Ahf y))):=
 .fnc (eps:=[.ep (fun j=>y.enc.getD j .Db) 3]) (.cons (.ptr hL h1 (fun j hj=>by
  have:j=0\/j=1\/j=2:=by omega
  rcases this with rfl|rfl|rfl<;>rfl)) .nil) (enters_of Tryz.func29 (by kernel_rfl) rfl)
  (by rintro _ _ ⟨x,rfl,rfl⟩;exact⟨rfl,Ahl x y⟩)
theorem Ahk (x y:Ar):FnS Tryz.prog 31 [arA x,.ep (fun j=>y.enc.getD j .Db) 3] [] (AB (AbE y x)) []:=by
 refine fb Tryz.func31 (by kernel_rfl) rfl Tryz.ntmps31 Tryz.results31 rfl rfl rfl rfl fun E hS=>?_
 repeat'(first|refine sB ?_|refine Ak rfl (by exact tt0) ?_|(refine Ax rfl ?_ ?_<;>intro h<;>have hq:=h<;>(try simp only[hqs] at hq))|fail)
 all_goals(refine Aw Ab rfl ?_;unfold AbE;first|rfl|(simp_all;done)|(simp_all;omega))
theorem Ahg {σ:St} {y:Ar} {n1:Nat} {L:List Nat} (hL:n1∈L) (h1:σ (.b n1)=some (.k (.box y.cs))):AR Tryz.prog σ L (.fnc 31 [.ptr n1 0]) (.clo (JB (AbE y))):=
 .fnc (eps:=[.ep (fun j=>y.enc.getD j .Db) 3]) (.cons (.ptr hL h1 (fun j hj=>by
  have:j=0\/j=1\/j=2:=by omega
  rcases this with rfl|rfl|rfl<;>rfl)) .nil) (enters_of Tryz.func31 (by kernel_rfl) rfl)
  (by rintro _ _ ⟨x,rfl,rfl⟩;exact⟨rfl,Ahk x y⟩)
theorem Ahj {l:List Ar} {i:Nat} (hi:i<l.length):l.getD i default=l[i]:=by
 rw[Agi,Agr hi];rfl
theorem Ahi {loads:List Ld} {m:Me} (h:Za loads m) {i:Nat} (hi:i<m.arr.length):
  0<=(m.arr.getD i default).slot/\(m.arr.getD i default).slot<m.slot/\(0<i->(m.arr.getD (i-1) default).slot<=(m.arr.getD i default).slot) /\
  loads.any (Ahf (m.arr.getD i default))=true/\(m.arr.take i).any (AbE (m.arr.getD i default))=false:=by
 have hin:m.arr.getD i default∈m.arr:=by rw[Ahj hi];exact AgN hi
 have hp:=List.pairwise_iff_getElem.1 h.asc;obtain⟨g,_,hg⟩:=h.ex;refine⟨(h.rng _ hin).1,(h.rng _ hin).2,fun h0=>?_,?_,?_⟩
 ·rw[Ahj hi,Ahj (show i-1<m.arr.length by omega)];exact(hp (i-1) i (by omega) hi (by omega)).1
 ·obtain⟨q,hq,h1,h2,h3,_⟩:=hg _ hin;have h3:(loads.getD q default).node=(m.arr.getD i default).origin:=h3;refine AgB.2 ⟨loads.getD q default,?_,?_⟩
  ·rw[Agi,Agr hq];exact AgN hq
  ·unfold Ahf;rw[Agj h3,Agj h2,Agj (show(loads.getD q default).slot<=(m.arr.getD i default).slot by omega)];rfl
 ·rw[AgC];intro b hb hk;obtain⟨j,hj,hj2,rfl⟩:=C5 hb;have:=(hp j i hj2 hi hj).2;rw[<-Ahj hj2,<-Ahj hi] at this;unfold AbE at hk;simp only[Agt,Agl] at hk;exact this (by rw[hk.1,hk.2])
set_option maxHeartbeats 8000000 in
theorem Ahc (ts:List Tb) (turns:Int) (loads:List Ld) (sil:List Si) (CE:Int) (ht:0<=turns/\turns<=255) (hs:0<=CE/\CE<=255):
  FnS Tryz.prog 5 [AD (tbs ts),AD (.int .u8 turns),AD (lds loads),AD (sis sil),AD (.int .u8 CE)] [] (AB true) []:=by
 refine fb Tryz.func5 (by kernel_rfl) rfl Tryz.ntmps5 Tryz.results5 rfl rfl rfl rfl fun E hS=>?_
 repeat'(first|refine sR ?_|refine Ak rfl (by exact tt0) ?_|(refine gC ?_;first|refine Aa (T0) (gk rfl) rfl rfl rfl (by rfl) rfl (by rfl) rfl ?_)|refine sq 3 rfl ?_|(refine gD ?_;first|refine Ah rfl ?_)|fail)
 by_cases h6:6<ts.length
 ·have d6:decide (6<(ts.length:Int))=true:=Agj (by omega)
  repeat'(first|refine sB ?_|refine Ak rfl (by exact tt0) ?_|refine Az rfl (by assumption) ?_|(refine gD ?_;first|refine Ai rfl ?_)|fail)
  all_goals exact Aw Ab rfl rfl
 have d6:decide (6<(ts.length:Int))=false:=Agk (by omega);by_cases h7:60<loads.length
 ·have d7:decide (60<(loads.length:Int))=true:=Agj (by omega)
  repeat'(first|refine sB ?_|refine Ak rfl (by exact tt0) ?_|refine Az rfl (by assumption) ?_|(refine gD ?_;first|refine Ai rfl ?_)|fail)
  all_goals exact Aw Ab rfl rfl
 have d7:decide (60<(loads.length:Int))=false:=Agk (by omega);by_cases h8:60<sil.length
 ·have d8:decide (60<(sil.length:Int))=true:=Agj (by omega)
  repeat'(first|refine sB ?_|refine Ak rfl (by exact tt0) ?_|refine Az rfl (by assumption) ?_|(refine gD ?_;first|refine Ai rfl ?_)|fail)
  all_goals exact Aw Ab rfl rfl
 have d8:decide (60<(sil.length:Int))=false:=Agk (by omega);cases h2:ts.any bigT with
 |true=>
  repeat'(first|refine sB ?_|refine Ak rfl (by exact tt0) ?_|(refine gC ?_;first|refine AF [] (containsf_Tb ts bigT) (gk rfl) rfl (by(repeat'(first|exact .nil|refine .cons ?_ ?_|exact .of0 (.c .d)|exact(ma1_fnc)))<;>fail) (by rfl) rfl (by rfl) rfl (by rfl) rfl ?_)|refine Az rfl (by assumption) ?_|(refine gD ?_;first|refine Ai rfl ?_|refine At rfl (by assumption) ?_)|fail)
  all_goals exact Aw Ab rfl rfl
 |false=>
  repeat'(first|refine sR ?_|refine Ak rfl (by exact tt0) ?_|(refine gC ?_;first|refine AF [] (containsf_Tb ts bigT) (gk rfl) rfl (by(repeat'(first|exact .nil|refine .cons ?_ ?_|exact .of0 (.c .d)|exact(ma1_fnc)))<;>fail) (by rfl) rfl (by rfl) rfl (by rfl) rfl ?_)|refine Az rfl (by assumption) ?_|refine sq 5 rfl ?_|(refine gD ?_;first|refine Ah rfl ?_|refine At rfl (by assumption) ?_)|fail)
  obtain⟨q,eq0⟩:∃q,q=1+turns % 8:=⟨_,rfl⟩;by_cases h3:(CM ts q).2=0
  ·have hN:=new_ok h3;obtain⟨n1,n2,n3,n4,n5⟩:=JE h3;have n6:=Ys loads h3;generalize (CM ts q).1=m at *;rw[eq0] at hN
   repeat'(first|refine sR ?_|refine Ak rfl (by first|exact tt0|omega) ?_|(refine gC ?_;first|refine Aa (hN) (gk rfl) rfl rfl rfl (by rfl) rfl (by rfl) rfl ?_)|(refine gV ?_;first|refine A4 (gk rfl) rfl ⟨_,rfl⟩ rfl (by exact wrap_i64 (by omega)) rfl ?_)|refine sq 6 rfl ?_|fail)
   obtain⟨n,hn⟩:∃n,n=CE % 81:=⟨_,rfl⟩;have hn0:0<=n/\n<=80:=by omega
   refine VC.le (σ':=AS [(2,AD (lds loads)),(3,AD (sis sil)),(4,AD (.int .u8 CE)),(10,AB false),(11,.c (.ptr 11 0)),(12,AI 0)] [(11,.box m.cs)]) ?_ ?_
   ·refine lg ?_ ?_ rfl (by rfl)
    all_goals repeat'(first|exact tt0|refine⟨⟨_,rfl,?_⟩,?_⟩|exact .c .d|exact .c (.ptr rfl)|exact .Bs rfl rfl|fail)
   have c1:=Rm (loads:=loads) (sil:=sil) (j:=n) n1 (by omega) (by omega) (by omega) (by omega);have n7:=Jq (loads:=loads) (sil:=sil) n1 n6 n.toNat (by omega);have n8:=WB n7;generalize runN loads sil n.toNat m=M at *;rw[hn] at c1;have dc:decide ((loads.length:Int)<(M.arr.length:Int))=false:=Agk (by omega)
   repeat'(first|refine sR ?_|refine Ak rfl (by first|exact tt0|omega) ?_|(refine gC ?_;first|refine Aa (c1) (gk rfl) rfl rfl rfl (by rfl) rfl (by rfl) rfl ?_)|(refine gV ?_;first|refine A4 (gk rfl) rfl ⟨_,rfl⟩ rfl (by exact wrap_i64 (by omega)) rfl ?_)|refine sq 9 rfl ?_|(refine gD ?_;first|refine Ah rfl ?_)|fail)
   refine VC.le (σ':=AS [(2,AD (lds loads)),(10,AB false),(11,.c (.ptr 11 0)),(13,AI 0)] [(11,.box M.cs)]) ?_ ?_
   ·refine lg ?_ ?_ rfl (by rfl)
    all_goals repeat'(first|exact tt0|refine⟨⟨_,rfl,?_⟩,?_⟩|exact .c .d|exact .c (.ptr rfl)|exact .Bs rfl rfl|fail)
   repeat'(first|refine sC ?_|refine Ak rfl (by exact tt0) ?_|(refine gD ?_;first|refine Ah rfl ?_|refine At rfl (by assumption) ?_)|fail)
   refine AK (ι:=Nat) (fun k=>AS [(2,AD (lds loads)),(10,AB false),(11,.c (.ptr 11 0)),(67,AD (ars M.arr)),(68,AI M.arr.length),(69,AI k)] [(11,.box M.cs)])
    (fun k=>k<=M.arr.length) (fun k=>M.arr.length-k) 0 (Ag1 _) ?_ ?_
   ·refine lg ?_ ?_ rfl (by rfl)
    all_goals repeat'(first|exact tt0|refine⟨⟨_,rfl,?_⟩,?_⟩|exact .c .d|exact .c (.ptr rfl)|exact .Bs rfl rfl|fail)
   ·intro k hk;by_cases hc:k<M.arr.length
    ·have hd:decide ((k:Int)<(M.arr.length:Int))=true:=Agj (by omega);obtain⟨a1,a2,a3,a4,a5⟩:=Ahi n7 hc;have f1:decide ((M.arr.getD k default).slot<0)=false:=Agk (by omega);have f2:decide (M.slot<=(M.arr.getD k default).slot)=false:=Agk (by omega);have hb1:=Ahe loads (Ahf (M.arr.getD k default));have hb2:=O4 (M.arr.take k) (AbE (M.arr.getD k default));rw[a4] at hb1;rw[a5] at hb2;have hb3:=FnS.le (.cons (ALe.part (DLe.head (sz:=3) M.arr k (by omega))) (.cons (.refl _) .nil)) hb2
     repeat'(first|refine sR ?_|refine Ak rfl (by exact tt0) ?_|(refine gI ?_;first|refine Au (gk rfl) rfl rfl rfl rfl rfl (by omega) rfl ?_)|refine sq 14 rfl ?_|(refine gD ?_;first|refine Ai rfl ?_|refine At rfl (by assumption) ?_)|refine B0 ?_|fail)
     refine VC.le (σ':=AS [(2,AD (lds loads)),(10,AB false),(11,.c (.ptr 11 0)),(14,AI k),(15,.c (.ptr 15 0)),(67,AD (ars M.arr)),(68,AI M.arr.length),(69,AI k)] [(11,.box M.cs),(15,.box (M.arr.getD k default).cs)]) ?_ ?_
     ·refine lg ?_ ?_ rfl (by rfl)
      all_goals repeat'(first|exact tt0|refine⟨⟨_,rfl,?_⟩,?_⟩|exact .c .d|exact .c (.ptr rfl)|exact .Bs rfl rfl|fail)
     rcases Nat.eq_zero_or_pos k with h0|h0
     ·have f3:decide (0<(k:Int))=false:=Agk (by omega)
      repeat'(first|refine sR ?_|refine Ak rfl (by exact tt0) ?_|refine Az rfl (by assumption) ?_|refine Ap (by kernel_rfl) ?_|refine sq 16 rfl ?_|(refine gD ?_;first|refine Ah rfl ?_)|fail)
      refine VC.le (σ':=AS [(2,AD (lds loads)),(10,AB false),(11,.c (.ptr 11 0)),(14,AI k),(15,.c (.ptr 15 0)),(67,AD (ars M.arr)),(68,AI M.arr.length),(69,AI k)] [(11,.box M.cs),(15,.box (M.arr.getD k default).cs)]) ?_ ?_
      ·refine lg ?_ ?_ rfl (by rfl)
       all_goals repeat'(first|exact tt0|refine⟨⟨_,rfl,?_⟩,?_⟩|exact .c .d|exact .c (.ptr rfl)|exact .Bs rfl rfl|fail)
      repeat'(first|refine sR ?_|refine Ak rfl (by exact tt0) ?_|(refine gC ?_;first|refine AF [15] (hb1) (gk rfl) rfl (by(repeat'(first|exact .nil|refine .cons ?_ ?_|exact .of0 (.c .d)|exact(Ahh (by simp) rfl)))<;>fail) (by rfl) rfl (by rfl) rfl (by rfl) rfl ?_)|refine sq 18 rfl ?_|(refine gD ?_;first|refine Ah rfl ?_)|fail)
      refine VC.le (σ':=AS [(2,AD (lds loads)),(10,AB false),(11,.c (.ptr 11 0)),(14,AI k),(15,.c (.ptr 15 0)),(67,AD (ars M.arr)),(68,AI M.arr.length),(69,AI k)] [(11,.box M.cs),(15,.box (M.arr.getD k default).cs)]) ?_ ?_
      ·refine lg ?_ ?_ rfl (by rfl)
       all_goals repeat'(first|exact tt0|refine⟨⟨_,rfl,?_⟩,?_⟩|exact .c .d|exact .c (.ptr rfl)|exact .Bs rfl rfl|fail)
      repeat'(first|refine sB ?_|refine Ak rfl (by first|exact tt0|omega) ?_|(refine gC ?_;first|refine AF [15] (hb3) (gk rfl) rfl (by(repeat'(first|exact .nil|refine .cons ?_ ?_|exact .of0 (.c .d)|exact(Ahg (by simp) rfl)))<;>fail) (by rfl) rfl (by rfl) rfl (by rfl) rfl ?_)|(show VR _ _ _ (⟨_,.slice _ _ _ _ _,_,_,_,_⟩ :: _) _ _ _;first|refine Zh (gk rfl) rfl rfl rfl (by exact .no) (by exact .int rfl rfl) (by omega) (by omega) rfl ?_)|(refine gD ?_;first|refine Ah rfl ?_)|fail)
      refine⟨k+1,by omega,by omega,?_⟩;refine lg ?_ ?_ rfl (by rfl)
      all_goals repeat'(first|exact tt0|refine⟨⟨_,rfl,?_⟩,?_⟩|exact .c .d|exact .c (.ptr rfl)|exact .Bs rfl rfl|fail)
     ·have f3:decide (0<(k:Int))=true:=Agj (by omega);have f4:decide ((M.arr.getD k default).slot<(M.arr.getD (k-1) default).slot)=false:=Agk (by have:=a3 h0;omega)
      repeat'(first|refine sR ?_|refine Ak rfl (by first|exact tt0|omega) ?_|(refine gI ?_;first|refine Dz (gk rfl) rfl rfl rfl rfl rfl (by omega) rfl ?_)|refine Az rfl (by assumption) ?_|refine Ap (by kernel_rfl) ?_|refine sq 16 rfl ?_|(refine gD ?_;first|refine Ah rfl ?_|refine At rfl (by assumption) ?_)|fail)
      refine VC.le (σ':=AS [(2,AD (lds loads)),(10,AB false),(11,.c (.ptr 11 0)),(14,AI k),(15,.c (.ptr 15 0)),(67,AD (ars M.arr)),(68,AI M.arr.length),(69,AI k)] [(11,.box M.cs),(15,.box (M.arr.getD k default).cs)]) ?_ ?_
      ·refine lg ?_ ?_ rfl (by rfl)
       all_goals repeat'(first|exact tt0|refine⟨⟨_,rfl,?_⟩,?_⟩|exact .c .d|exact .c (.ptr rfl)|exact .Bs rfl rfl|fail)
      repeat'(first|refine sR ?_|refine Ak rfl (by exact tt0) ?_|(refine gC ?_;first|refine AF [15] (hb1) (gk rfl) rfl (by(repeat'(first|exact .nil|refine .cons ?_ ?_|exact .of0 (.c .d)|exact(Ahh (by simp) rfl)))<;>fail) (by rfl) rfl (by rfl) rfl (by rfl) rfl ?_)|refine sq 18 rfl ?_|(refine gD ?_;first|refine Ah rfl ?_)|fail)
      refine VC.le (σ':=AS [(2,AD (lds loads)),(10,AB false),(11,.c (.ptr 11 0)),(14,AI k),(15,.c (.ptr 15 0)),(67,AD (ars M.arr)),(68,AI M.arr.length),(69,AI k)] [(11,.box M.cs),(15,.box (M.arr.getD k default).cs)]) ?_ ?_
      ·refine lg ?_ ?_ rfl (by rfl)
       all_goals repeat'(first|exact tt0|refine⟨⟨_,rfl,?_⟩,?_⟩|exact .c .d|exact .c (.ptr rfl)|exact .Bs rfl rfl|fail)
      repeat'(first|refine sB ?_|refine Ak rfl (by first|exact tt0|omega) ?_|(refine gC ?_;first|refine AF [15] (hb3) (gk rfl) rfl (by(repeat'(first|exact .nil|refine .cons ?_ ?_|exact .of0 (.c .d)|exact(Ahg (by simp) rfl)))<;>fail) (by rfl) rfl (by rfl) rfl (by rfl) rfl ?_)|(show VR _ _ _ (⟨_,.slice _ _ _ _ _,_,_,_,_⟩ :: _) _ _ _;first|refine Zh (gk rfl) rfl rfl rfl (by exact .no) (by exact .int rfl rfl) (by omega) (by omega) rfl ?_)|(refine gD ?_;first|refine Ah rfl ?_)|fail)
      refine⟨k+1,by omega,by omega,?_⟩;refine lg ?_ ?_ rfl (by rfl)
      all_goals repeat'(first|exact tt0|refine⟨⟨_,rfl,?_⟩,?_⟩|exact .c .d|exact .c (.ptr rfl)|exact .Bs rfl rfl|fail)
    ·have hd:decide ((k:Int)<(M.arr.length:Int))=false:=Agk (by omega)
     repeat'(first|refine sB ?_|refine Ak rfl (by exact tt0) ?_|(refine gD ?_;first|refine Ah rfl ?_|refine At rfl (by assumption) ?_)|fail)
     exact Aw Ab rfl rfl
  ·obtain⟨m,e,he,hN⟩:=new_bad ts q h3;rw[eq0] at hN;have de:decide (e≠0)=true:=Agj he
   repeat'(first|refine sB ?_|refine Ak rfl (by first|exact tt0|omega) ?_|(refine gC ?_;first|refine Aa (hN) (gk rfl) rfl rfl rfl (by rfl) rfl (by rfl) rfl ?_)|(refine gV ?_;first|refine A4 (gk rfl) rfl ⟨_,rfl⟩ rfl (by exact wrap_i64 (by omega)) rfl ?_)|(refine gD ?_;first|refine Ai rfl ?_|refine At rfl (by assumption) ?_)|fail)
   all_goals exact Aw Ab rfl rfl
end Go.Proofs.M
end
