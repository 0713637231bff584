/-
  Functions' results, and laws on them. No condition.
-/
import Derived.Test.YtdlcbilgemnomaaGreatSxMax
import Derived.Test.YtdlcbilgemnomaaGreatSxMaw
import Derived.Test.YtdlcbilgemnomaaGreatRows
set_option linter.unusedSimpArgs false
set_option linter.unusedVariables false
set_option maxRecDepth 4000
set_option maxHeartbeats 16000000
open Go.Proofs.Tryz
namespace Go.Proofs.M
open Go Go.Sx Go.Proofs Go.Proofs.T Go.Proofs.Q
open Go.Proofs.P (Nb nbs Rk rkA rkErr checkNb hearM countM forgetM select')
open Go.Proofs.R (startM advM)
attribute [local irreducible] VR VC thenQ blockQ retL
theorem Ain {m:Me} (hm:B6 m=0):IK m.nodes.length 0 (m.arr,DI m):=by
 obtain⟨hh,hr⟩:=DG.1 hm;refine⟨hh.a1,by simp[DI],fun j _ hj=>?_⟩;have e:(DI m).getD j default=Aft (m.nodes.getD j default) j:=by simp[DI,Ajt,hj]
 show WOK j ((DI m).getD j default);rw[e];exact⟨rfl,(hr j hj).st,(hr j hj).nx⟩
theorem X2 {m:Me} {loads:List Ld} {sil:List Si} (hm:B6 m=0) (hl:loads.length<=1024):Ak 55 [meA m,AD (lds loads),AD (sis sil)] (meA (ID m loads sil)):=by
 obtain⟨hh,hr⟩:=DG.1 hm;obtain⟨g1,g2,g3,g4,g5,g6,g7⟩:=hh;exact X1 m loads sil (by omega) (by omega) (by omega) (by omega) (Ain hm)
theorem Qo {m:Me} {loads:List Ld} {sil:List Si} (h:C0 m loads sil=0):B6 m=0/\loads.length<=1024/\sil.length<=1024:=by
 unfold C0 at h
 split at h
 ·cases h
 ·rename_i hc
  split at h
  ·cases h
  ·omega
theorem WG (m:Me) (loads:List Ld) (sil:List Si):Ak 34 [meA m,AD (lds loads),AD (sis sil)] (.tup [meA (LS m loads sil).1,AI (LS m loads sil).2]):=by
 have hst:=Mu m loads sil;refine Ao func34 ntmps34 results34 fun E hS=>?_
 refine AG ?_;by_cases h:C0 m loads sil=0
 ·have d1:decide (C0 m loads sil≠0)=false:=Ajv (fun hn=>hn h);obtain⟨hm,hl,_⟩:=Qo h;have hstep:=X2 (sil:=sil) hm hl;have e:LS m loads sil=if 16384<=m.slot then(noM,21) else(ID m loads sil,0):=Akb (fun hn=>hn h)
  rw[e];by_cases h2:16384<=m.slot
  ·have d2:=Aju h2;rw[Akc h2]
   repeat'(first|refine Ad ?_|refine Aa (hst) ?_|fail)
   exact Ag (Al (l:=[(6,.c (.ptr 6 0)),(7,AI 21)]) (b:=[(6,.box noM.cs)])) Aj
  ·have d2:=Ajv h2;rw[Akb h2]
   repeat'(first|refine Ad ?_|refine Aa (hst) ?_|refine Aa (hstep) ?_|fail)
   exact Ag (Al (l:=[(6,.c (.ptr 6 0)),(7,AI 0)]) (b:=[(6,.box (ID m loads sil).cs)])) Aj
 ·have d1:decide (C0 m loads sil≠0)=true:=Aju h;have e:LS m loads sil=(noM,C0 m loads sil):=Akc h;rw[e]
  repeat'(first|refine Ad ?_|refine Aa (hst) ?_|fail)
  exact Ag (Al (l:=[(6,.c (.ptr 6 0)),(7,AI (C0 m loads sil))]) (b:=[(6,.box noM.cs)])) Aj
theorem Q0 (m:Me) (BK:Int) (loads:List Ld) (sil:List Si):Ak 23 [meA m,AI BK,AD (lds loads),AD (sis sil)] (.tup [meA (PX m BK loads sil).1,AI (PX m BK loads sil).2]):=by
 have hst:=Mu m loads sil;refine Ao func23 ntmps23 results23 fun E hS=>?_
 refine AG ?_;by_cases h:C0 m loads sil=0
 ·have d1:decide (C0 m loads sil≠0)=false:=Ajv (fun hn=>hn h);obtain⟨hm,hl,_⟩:=Qo h;obtain⟨hh,_⟩:=DG.1 hm;have hs1:=hh.s1;have hs2:=hh.s2;have e:PX m BK loads sil=if BK<0\/4096<BK then(noM,2) else if 16384<m.slot+BK then(noM,21) else(runN loads sil BK.toNat m,0):=Akb (fun hn=>hn h)
  rw[e];by_cases h2:BK<0\/4096<BK
  ·rw[Akc h2]
   repeat'(first|refine Af ?_|refine Aa (hst) ?_|(refine Av ?_ ?_<;>intro h hq)|fail)
   all_goals try (exfalso;omega)
   all_goals
    exact Ag (Al (l:=[(8,.c (.ptr 8 0)),(9,AI 2)]) (b:=[(8,.box noM.cs)])) Aj
  ·rw[Akb h2];have d2:=Cc (BK<0);have d3:=Cc (4096<BK);by_cases h3:16384<m.slot+BK
   ·have d4:=Aju h3;rw[Akc h3]
    repeat'(first|refine Af ?_|refine Aa (hst) ?_|fail)
    exact Ag (Al (l:=[(8,.c (.ptr 8 0)),(9,AI 21)]) (b:=[(8,.box noM.cs)])) Aj
   ·have d4:=Ajv h3;rw[Akb h3]
    repeat'(first|refine Af ?_|refine Aa (hst) ?_|fail)
    refine Ax (ι:=Nat) (fun k=>AN [(2,AD (lds loads)),(3,AD (sis sil)),(8,.c (.ptr 8 0)),(4,.c (.ptr 4 0)),(9,AI 0),(35,AI BK),(36,AI k)] [(4,.box (runN loads sil k m).cs),(8,.box noM.cs)]) (fun k=>(k:Int)<=BK) (fun k=>BK.toNat-k) 0 (by show(0:Int)<=BK;omega) ?_ ?_
    ·exact Al
    ·intro k hk;obtain⟨r1,r2,_,_⟩:=L4 (loads:=loads) (sil:=sil) hm k (by omega);have hstep:=X2 (sil:=sil) r1 hl;by_cases hc:(k:Int)<BK
     ·have hd:=Aju hc
      repeat'(first|refine Af ?_|refine Aa (hstep) ?_|fail)
      refine BU (k+1) ?_;show Le _ _ (AN [(2,AD (lds loads)),(3,AD (sis sil)),(8,.c (.ptr 8 0)),(4,.c (.ptr 4 0)),(9,AI 0),(35,AI BK),(36,AI ((k+1:Nat):Int))] [(4,.box (ID (runN loads sil k m) loads sil).cs),(8,.box noM.cs)]);exact Al
     ·have hd:=Ajv hc;have hks:BK.toNat=k:=by omega
      rw[hks]
      repeat'(first|refine Ad ?_|fail)
      exact Ag (Al (l:=[(8,.c (.ptr 8 0)),(9,AI 0)]) (b:=[(8,.box (runN loads sil k m).cs)])) Aj
 ·have d1:decide (C0 m loads sil≠0)=true:=Aju h;have e:PX m BK loads sil=(noM,C0 m loads sil):=Akc h;rw[e]
  repeat'(first|refine Af ?_|refine Aa (hst) ?_|fail)
  exact Ag (Al (l:=[(8,.c (.ptr 8 0)),(9,AI (C0 m loads sil))]) (b:=[(8,.box noM.cs)])) Aj
end Go.Proofs.M
namespace Go.Proofs.M
open Go Go.Sx Go.Proofs Go.Proofs.T Go.Proofs.Q
attribute [local irreducible] VR VC thenQ blockQ retL
theorem MY (a b:List Int):Ak 17 [AD (ints a),AD (ints b)] (AB (decide (a=b))):=by
 refine Ao func17 ntmps17 results17 fun E hS=>?_
 refine Bz (t:=0) rfl fun hb=>?_
 repeat'(first|refine Af ?_|(refine Av ?_ ?_<;>intro h hq)|fail)
 ·refine Aq Ae rfl ?_;have:a≠b:=fun e=>by subst e;simp_all
  simp[this]
 ·refine Ax (ι:=Nat) (fun k=>AN [(0,AD (ints a)),(1,AD (ints b)),(12,AI a.length),(13,AI k)] []) (fun k=>k<=a.length/\∀i,i<k->a.getD i default=b.getD i default) (fun k=>a.length-k) 0 ⟨Ake _,fun i hi=>absurd hi (Aj9 _)⟩ ?_ ?_
  ·exact By ⟨rfl,rfl,rfl,rfl,tt0⟩ trivial rfl
  ·rintro k ⟨hk,hall⟩
   repeat'(first|refine Af ?_|(refine Av ?_ ?_<;>intro h hq)|fail)
   ·refine Aq Ae rfl ?_;have:a≠b:=fun e=>hq (by rw[e])
    simp[this]
   ·refine⟨k+1,⟨by omega,fun i hi=>?_⟩,by omega,By ⟨rfl,rfl,rfl,rfl,tt0⟩ trivial rfl⟩;by_cases hik:i<k
    ·exact hall i hik
    ·have:i=k:=by omega
     subst this;exact hq
   ·refine Aq Ae rfl ?_;have:a=b:=Go.Sx.EX (by omega) fun i hi=>hall i (by omega)
    simp[this]
theorem RG (a b:List Ar):Ak 37 [AD (ars a),AD (ars b)] (AB (decide (a=b))):=by
 refine Ao func37 ntmps37 results37 fun E hS=>?_
 refine Bz (t:=0) rfl fun hb=>?_
 repeat'(first|refine Af ?_|(refine Av ?_ ?_<;>intro h hq)|fail)
 ·refine Aq Ae rfl ?_;have:a≠b:=fun e=>by subst e;simp_all
  simp[this]
 ·refine Ax (ι:=Nat) (fun k=>AN [(0,AD (ars a)),(1,AD (ars b)),(12,AI a.length),(13,AI k)] []) (fun k=>k<=a.length/\∀i,i<k->a.getD i default=b.getD i default) (fun k=>a.length-k) 0 ⟨Ake _,fun i hi=>absurd hi (Aj9 _)⟩ ?_ ?_
  ·exact By ⟨rfl,rfl,rfl,rfl,tt0⟩ trivial rfl
  ·rintro k ⟨hk,hall⟩
   repeat'(first|refine Af ?_|refine Gc (gk rfl) rfl rfl rfl rfl rfl rfl rfl ?_|(refine Av ?_ ?_<;>intro h hq)|fail)
   ·refine Aq Ae rfl ?_;have:a≠b:=fun e=>hq (by rw[e])
    simp[this]
   ·refine⟨k+1,⟨by omega,fun i hi=>?_⟩,by omega,By ⟨rfl,rfl,rfl,rfl,tt0⟩ trivial rfl⟩;by_cases hik:i<k
    ·exact hall i hik
    ·have:i=k:=by omega
     subst this;exact AiD hq
   ·refine Aq Ae rfl ?_;have:a=b:=Go.Sx.EX (by omega) fun i hi=>hall i (by omega)
    simp[this]
set_option maxRecDepth 100000 in
theorem Ag5:decide ((E8 (K0 2) 2).2=0)=true:=by kernel_rfl
set_option maxRecDepth 100000 in
theorem Ag3:decide ((PX (E8 (K0 2) 2).1 2 [⟨1,1⟩] []).2=0/\(PX (E8 (K0 2) 2).1 2 [⟨1,1⟩] []).1.slot=2/\((PX (E8 (K0 2) 2).1 2 [⟨1,1⟩] []).1.nodes.getD 1 default).rk.rank=256/\(PX (E8 (K0 2) 2).1 2 [⟨1,1⟩] []).1.arr=[⟨1,0,1⟩]/\(PX (E8 (K0 2) 2).1 2 [⟨1,1⟩] []).1.nodes.length=2)=true:=by kernel_rfl
set_option maxRecDepth 100000 in
theorem Ag4:decide (Fq (PX (E8 (K0 2) 2).1 2 [⟨1,1⟩] []).1=[-1,0])=true:=by kernel_rfl
theorem Ag6:∃m1 m2:Me,Ak 13 [AD (tbs (K0 2)),AI 2] (.tup [meA m1,AI 0])/\Ak 23 [meA m1,AI 2,AD (lds [⟨1,1⟩]),AD (sis [])] (.tup [meA m2,AI 0]) /\
  Ak 18 [meA m2] (AD (ints [-1,0]))/\m2.slot=2/\(m2.nodes.getD 1 default).rk.rank=256/\m2.arr=[⟨1,0,1⟩]/\m2.nodes.length=2:=by
 have h1:=AjT Ag5;have h2:=AjT Ag3;have h3:=AjT Ag4;have s1:=Q3 (K0 2) 2;have s2:=Q0 (E8 (K0 2) 2).1 2 [⟨1,1⟩] [];have s3:=KJ (PX (E8 (K0 2) 2).1 2 [⟨1,1⟩] []).1;rw[h1] at s1;rw[h2.1] at s2;rw[h3] at s3;exact⟨_,_,s1,s2,s3,h2.2⟩
theorem KE:Ak 10 [] (AB true):=by
 obtain⟨m1,m2,s1,s2,s3,h1,h2,h3,h4⟩:=Ag6;have hl:=Y4 2 (by omega);have e1:=MY [-1,0] [-1,0];have e2:=RG m2.arr [⟨1,0,1⟩];have d1:decide (m2.slot=2)=true:=Aju h1;have d2:decide ((m2.nodes.getD 1 default).rk.rank=256)=true:=Aju h2;refine Ao func10 ntmps10 results10 fun E hS=>?_
 repeat'(first|refine AJ ?_|refine Aa (hl) ?_|refine Aa (s1) ?_|refine sq 2 rfl ?_|fail)
 refine Gi [(0,AB false),(1,.c (.ptr 1 0)),(2,AI 0)] [(1,.box m1.cs)] ?_
 repeat'(first|refine AJ ?_|refine AaL (nmL []) [12] [] (FnS.toW (s2)) (gk rfl) rfl rfl (by(repeat'(first|exact .nil|refine .cons ?_ ?_|exact .r (.of0 (.c .d))|refine .r ?_|exact .of0 (.c .nil)|exact .of0 (.c (CL (by simp) rfl (by rfl) (fun _=>rfl)))|refine .of0 (.agg ?_)|exact .d))<;>fail) trivial rfl rfl rfl hS rfl (by rfl) rfl rfl rfl rfl (by(simp only[PY,Akq,Aku,Blk.ren,C.ren,QC,Vc,Vb,gW,Su,nmL,Nat.reduceBEq,AkK,Bool.or_true,Bool.false_or,Bool.true_or,cond_true,cond_false,Nat.reduceMul,Nat.reduceAdd])<;>rfl) (by(simp only[AV.ren,AV.Aba,Akq,Aku,C.ren,gW,Su,nmL,Nat.reduceBEq,AkK,Bool.or_true,Bool.false_or,Bool.true_or,cond_true,cond_false,Nat.reduceMul,Nat.reduceAdd])<;>rfl) rfl ?_|refine sq 3 rfl ?_|fail)
 refine Gi [(0,AB false),(1,.c (.ptr 1 0)),(2,AI 0),(3,AI 0)] [(1,.box m2.cs)] ?_
 repeat'(first|refine Ad ?_|refine Aa (s3) ?_|refine AK [30] (e1) ?_|refine AK [46] (e2) ?_|refine EO (gk rfl) rfl rfl rfl rfl (by omega) rfl ?_|fail)
 exact Aq Ae rfl (Aju h3).symm
end Go.Proofs.M
namespace Go.Proofs.M
open Go Go.Sx Go.Proofs Go.Proofs.T Go.Proofs.Q
open Go.Proofs.P (Nb nbs)
abbrev nbA (x:Nb):AV:=.agg x.cs
abbrev Ah5:List Sh:=[.int .i64,.int .i64,.int .i64,.bool,.int .i64,.int .i64]
theorem AfQ {d:D} (h:Di (.sl Ah5) d):∃l:List TC,DLe d (tcs l):=by
 unfold Di at h;obtain⟨n,f,rfl,_,hf⟩:=h;obtain⟨l,_,_,hl⟩:=NC TC.enc (fun _=>True) (n:=n) (sz:=6) (f:=f) (fun i hi=>by
  have:=hf i hi;simp only[FU] at this;obtain⟨h0,h1,h2,h3,h4,h5,_⟩:=this;obtain⟨a0,e0,w0⟩:=D8 h0;obtain⟨a1,e1,w1⟩:=D8 h1;obtain⟨a2,e2,w2⟩:=D8 h2;obtain⟨a3,e3⟩:=AiC h3;obtain⟨a4,e4,w4⟩:=D8 h4;obtain⟨a5,e5,w5⟩:=D8 h5;refine⟨⟨a0,a1,a2,a3,a4,a5⟩,tt0,fun j hj=>?_⟩;have:j=0\/j=1\/j=2\/j=3\/j=4\/j=5:=by omega
  rcases this with rfl|rfl|rfl|rfl|rfl|rfl
  ·rw[show f i 0=_ from e0];exact DLe.refl _
  ·rw[show f i 1=_ from e1];exact DLe.refl _
  ·rw[show f i 2=_ from e2];exact DLe.refl _
  ·rw[show f i 3=_ from e3];exact DLe.refl _
  ·rw[show f i 4=_ from e4];exact DLe.refl _
  ·rw[show f i 5=_ from e5];exact DLe.refl _)
 exact⟨l,hl⟩
abbrev AiP:List Sh:=[.int .i64,.int .i64,.int .i64,.int .i64,.int .i64,.str]
theorem Agu {d:D} (h:Di (.sl AiP) d):∃l:List Pk,DLe d (pks l):=by
 unfold Di at h;obtain⟨n,f,rfl,_,hf⟩:=h;obtain⟨l,_,_,hl⟩:=NC Pk.enc (fun _=>True) (n:=n) (sz:=6) (f:=f) (fun i hi=>by
  have:=hf i hi;simp only[FU] at this;obtain⟨h0,h1,h2,h3,h4,h5,_⟩:=this;obtain⟨a0,e0,w0⟩:=D8 h0;obtain⟨a1,e1,w1⟩:=D8 h1;obtain⟨a2,e2,w2⟩:=D8 h2;obtain⟨a3,e3,w3⟩:=D8 h3;obtain⟨a4,e4,w4⟩:=D8 h4;obtain⟨a5,e5,w5⟩:=Ag8 h5;refine⟨⟨a0,a1,a2,a3,a4,a5⟩,tt0,fun j hj=>?_⟩;have:j=0\/j=1\/j=2\/j=3\/j=4\/j=5:=by omega
  rcases this with rfl|rfl|rfl|rfl|rfl|rfl
  ·rw[show f i 0=_ from e0];exact DLe.refl _
  ·rw[show f i 1=_ from e1];exact DLe.refl _
  ·rw[show f i 2=_ from e2];exact DLe.refl _
  ·rw[show f i 3=_ from e3];exact DLe.refl _
  ·rw[show f i 4=_ from e4];exact DLe.refl _
  ·rw[show f i 5=_ from e5];exact DLe.refl _)
 exact⟨l,hl⟩
abbrev AiS:List Sh:=[.int .i64,.int .i64,.int .i64,.str,.sl [.int .i64]]
theorem AgK {d:D} (h:Di (.sl AiS) d):∃l:List Hd,DLe d (hds l):=by
 unfold Di at h;obtain⟨n,f,rfl,_,hf⟩:=h;obtain⟨l,_,_,hl⟩:=NC Hd.enc (fun _=>True) (n:=n) (sz:=5) (f:=f) (fun i hi=>by
  have:=hf i hi;simp only[FU] at this;obtain⟨h0,h1,h2,h3,h4,_⟩:=this;obtain⟨a0,e0,w0⟩:=D8 h0;obtain⟨a1,e1,w1⟩:=D8 h1;obtain⟨a2,e2,w2⟩:=D8 h2;obtain⟨a3,e3,w3⟩:=Ag8 h3;obtain⟨a4,e4,_⟩:=AeF h4;refine⟨⟨a0,a1,a2,a3,a4⟩,tt0,fun j hj=>?_⟩;have:j=0\/j=1\/j=2\/j=3\/j=4:=by omega
  rcases this with rfl|rfl|rfl|rfl|rfl
  ·rw[show f i 0=_ from e0];exact DLe.refl _
  ·rw[show f i 1=_ from e1];exact DLe.refl _
  ·rw[show f i 2=_ from e2];exact DLe.refl _
  ·rw[show f i 3=_ from e3];exact DLe.refl _
  ·exact e4)
 exact⟨l,hl⟩
abbrev AiO:List Sh:=[.int .i64,.int .i64]
theorem Agj {d:D} (h:Di (.sl AiO) d):∃l:List Sn,DLe d (sns l):=by
 unfold Di at h;obtain⟨n,f,rfl,_,hf⟩:=h;obtain⟨l,_,_,hl⟩:=NC Sn.enc (fun _=>True) (n:=n) (sz:=2) (f:=f) (fun i hi=>by
  have:=hf i hi;simp only[FU] at this;obtain⟨h0,h1,_⟩:=this;obtain⟨a0,e0,w0⟩:=D8 h0;obtain⟨a1,e1,w1⟩:=D8 h1;refine⟨⟨a0,a1⟩,tt0,fun j hj=>?_⟩;have:j=0\/j=1:=by omega
  rcases this with rfl|rfl
  ·rw[show f i 0=_ from e0];exact DLe.refl _
  ·rw[show f i 1=_ from e1];exact DLe.refl _)
 exact⟨l,hl⟩
abbrev AiQ:List Sh:=[.int .i64,.int .i64,.int .i64,.int .i64,.int .i64,.int .i64]
theorem AgB {d:D} (h:Di (.sl AiQ) d):∃l:List Nb,DLe d (nbs l):=by
 unfold Di at h;obtain⟨n,f,rfl,_,hf⟩:=h;obtain⟨l,_,_,hl⟩:=NC Nb.enc (fun _=>True) (n:=n) (sz:=6) (f:=f) (fun i hi=>by
  have:=hf i hi;simp only[FU] at this;obtain⟨h0,h1,h2,h3,h4,h5,_⟩:=this;obtain⟨a0,e0,w0⟩:=D8 h0;obtain⟨a1,e1,w1⟩:=D8 h1;obtain⟨a2,e2,w2⟩:=D8 h2;obtain⟨a3,e3,w3⟩:=D8 h3;obtain⟨a4,e4,w4⟩:=D8 h4;obtain⟨a5,e5,w5⟩:=D8 h5;refine⟨⟨a0,a1,a2,a3,a4,a5⟩,tt0,fun j hj=>?_⟩;have:j=0\/j=1\/j=2\/j=3\/j=4\/j=5:=by omega
  rcases this with rfl|rfl|rfl|rfl|rfl|rfl
  ·rw[show f i 0=_ from e0];exact DLe.refl _
  ·rw[show f i 1=_ from e1];exact DLe.refl _
  ·rw[show f i 2=_ from e2];exact DLe.refl _
  ·rw[show f i 3=_ from e3];exact DLe.refl _
  ·rw[show f i 4=_ from e4];exact DLe.refl _
  ·rw[show f i 5=_ from e5];exact DLe.refl _)
 exact⟨l,hl⟩
abbrev AiT:List Sh:=[.int .i64,.int .i64,.int .i64]
theorem Ag9 {d:D} (h:Di (.sl AiT) d):∃l:List Ar,DLe d (ars l):=by
 unfold Di at h;obtain⟨n,f,rfl,_,hf⟩:=h;obtain⟨l,_,_,hl⟩:=NC Ar.enc (fun _=>True) (n:=n) (sz:=3) (f:=f) (fun i hi=>by
  have:=hf i hi;simp only[FU] at this;obtain⟨h0,h1,h2,_⟩:=this;obtain⟨a0,e0,w0⟩:=D8 h0;obtain⟨a1,e1,w1⟩:=D8 h1;obtain⟨a2,e2,w2⟩:=D8 h2;refine⟨⟨a0,a1,a2⟩,tt0,fun j hj=>?_⟩;have:j=0\/j=1\/j=2:=by omega
  rcases this with rfl|rfl|rfl
  ·rw[show f i 0=_ from e0];exact DLe.refl _
  ·rw[show f i 1=_ from e1];exact DLe.refl _
  ·rw[show f i 2=_ from e2];exact DLe.refl _)
 exact⟨l,hl⟩
abbrev Ah6:List Sh:=[.int .i64,.int .i64]
theorem AcD {d:D} (h:Di (.sl Ah6) d):∃l:List Ld,DLe d (lds l):=by
 unfold Di at h;obtain⟨n,f,rfl,_,hf⟩:=h;obtain⟨l,_,_,hl⟩:=NC Ld.enc (fun _=>True) (n:=n) (sz:=2) (f:=f) (fun i hi=>by
  have:=hf i hi;simp only[FU] at this;obtain⟨h0,h1,_⟩:=this;obtain⟨a0,e0,w0⟩:=D8 h0;obtain⟨a1,e1,w1⟩:=D8 h1;refine⟨⟨a0,a1⟩,tt0,fun j hj=>?_⟩;have:j=0\/j=1:=by omega
  rcases this with rfl|rfl
  ·rw[show f i 0=_ from e0];exact DLe.refl _
  ·rw[show f i 1=_ from e1];exact DLe.refl _)
 exact⟨l,hl⟩
abbrev Ahn:List Sh:=[.int .i64,.int .i64,.int .i64,.int .i64]
theorem X8 {d:D} (h:Di (.sl Ahn) d):∃l:List Si,DLe d (sis l):=by
 unfold Di at h;obtain⟨n,f,rfl,_,hf⟩:=h;obtain⟨l,_,_,hl⟩:=NC Si.enc (fun _=>True) (n:=n) (sz:=4) (f:=f) (fun i hi=>by
  have:=hf i hi;simp only[FU] at this;obtain⟨h0,h1,h2,h3,_⟩:=this;obtain⟨a0,e0,w0⟩:=D8 h0;obtain⟨a1,e1,w1⟩:=D8 h1;obtain⟨a2,e2,w2⟩:=D8 h2;obtain⟨a3,e3,w3⟩:=D8 h3;refine⟨⟨a0,a1,a2,a3⟩,tt0,fun j hj=>?_⟩;have:j=0\/j=1\/j=2\/j=3:=by omega
  rcases this with rfl|rfl|rfl|rfl
  ·rw[show f i 0=_ from e0];exact DLe.refl _
  ·rw[show f i 1=_ from e1];exact DLe.refl _
  ·rw[show f i 2=_ from e2];exact DLe.refl _
  ·rw[show f i 3=_ from e3];exact DLe.refl _)
 exact⟨l,hl⟩
theorem Eg {d:D} (h:Di (.int .i64) d):∃n,d=.int .i64 n:=by
 unfold Di at h;obtain⟨n,e,_⟩:=h;exact⟨n,e⟩
abbrev AiR:List Sh:=[.int .i64,.int .i64,.sl Ah5,.int .i64,.sl AiP,.sl AiS,.sl AiO,.int .i64,.int .i64,.int .i64,.int .i64,.int .i64,.int .i64,.int .i64,.int .i64,.int .i64,.int .i64,.int .i64,.int .i64,.int .i64,.sl AiQ,.int .i64]
theorem AgC {d:D} (h:Di (.sl AiR) d):∃l:List MN,DLe d (mns l):=by
 unfold Di at h;obtain⟨n,f,rfl,_,hf⟩:=h;obtain⟨l,_,_,hl⟩:=NC MN.enc (fun _=>True) (n:=n) (sz:=22) (f:=f) (fun i hi=>by
  have:=hf i hi;simp only[FU] at this;obtain⟨h0,h1,h2,h3,h4,h5,h6,h7,h8,h9,h10,h11,h12,h13,h14,h15,h16,h17,h18,h19,h20,h21,_⟩:=this;obtain⟨a0,e0⟩:=Eg h0;obtain⟨a1,e1⟩:=Eg h1;obtain⟨a2,e2⟩:=AfQ h2;obtain⟨a3,e3⟩:=Eg h3;obtain⟨a4,e4⟩:=Agu h4;obtain⟨a5,e5⟩:=AgK h5;obtain⟨a6,e6⟩:=Agj h6;obtain⟨a7,e7⟩:=Eg h7;obtain⟨a8,e8⟩:=Eg h8;obtain⟨a9,e9⟩:=Eg h9;obtain⟨a10,e10⟩:=Eg h10;obtain⟨a11,e11⟩:=Eg h11;obtain⟨a12,e12⟩:=Eg h12;obtain⟨a13,e13⟩:=Eg h13;obtain⟨a14,e14⟩:=Eg h14;obtain⟨a15,e15⟩:=Eg h15;obtain⟨a16,e16⟩:=Eg h16;obtain⟨a17,e17⟩:=Eg h17;obtain⟨a18,e18⟩:=Eg h18;obtain⟨a19,e19⟩:=Eg h19;obtain⟨a20,e20⟩:=AgB h20;obtain⟨a21,e21⟩:=Eg h21;refine⟨⟨⟨⟨a0,a1,a2⟩,⟨a3,a4⟩,a5,a6,a7,a8,a9,a10,a11,a12,a13⟩,⟨a14,a15,a16,a17,a18,a19⟩,a20,a21⟩,tt0,fun j hj=>?_⟩;have:j=0\/j=1\/j=2\/j=3\/j=4\/j=5\/j=6\/j=7\/j=8\/j=9\/j=10\/j=11\/j=12\/j=13\/j=14\/j=15\/j=16\/j=17\/j=18\/j=19\/j=20\/j=21:=by omega
  rcases this with rfl|rfl|rfl|rfl|rfl|rfl|rfl|rfl|rfl|rfl|rfl|rfl|rfl|rfl|rfl|rfl|rfl|rfl|rfl|rfl|rfl|rfl
  ·rw[show f i 0=_ from e0];exact DLe.refl _
  ·rw[show f i 1=_ from e1];exact DLe.refl _
  ·exact e2
  ·rw[show f i 3=_ from e3];exact DLe.refl _
  ·exact e4
  ·exact e5
  ·exact e6
  ·rw[show f i 7=_ from e7];exact DLe.refl _
  ·rw[show f i 8=_ from e8];exact DLe.refl _
  ·rw[show f i 9=_ from e9];exact DLe.refl _
  ·rw[show f i 10=_ from e10];exact DLe.refl _
  ·rw[show f i 11=_ from e11];exact DLe.refl _
  ·rw[show f i 12=_ from e12];exact DLe.refl _
  ·rw[show f i 13=_ from e13];exact DLe.refl _
  ·rw[show f i 14=_ from e14];exact DLe.refl _
  ·rw[show f i 15=_ from e15];exact DLe.refl _
  ·rw[show f i 16=_ from e16];exact DLe.refl _
  ·rw[show f i 17=_ from e17];exact DLe.refl _
  ·rw[show f i 18=_ from e18];exact DLe.refl _
  ·rw[show f i 19=_ from e19];exact DLe.refl _
  ·exact e20
  ·rw[show f i 21=_ from e21];exact DLe.refl _)
 exact⟨l,hl⟩
abbrev Ajq:List Sh:=[.int .i64,.int .i64,.sl Ah5]
abbrev Aho:List Sh:=[.sl AiR,.int .i64,.int .i64,.sl AiT]
theorem Y1 {a:AV} (h:∃ds,a=Ag7 true ds/\DD Aho ds):∃x:Me,ALe (P:=Tryz.prog) a (meA x):=by
 obtain⟨ds,rfl,h⟩:=h;have hl:=Kw h
 match ds,hl,h with
 |[d0,d1,d2,d3],_,h=>
  simp only[DD] at h;obtain⟨h0,h1,h2,h3,_⟩:=h;obtain⟨a0,e0⟩:=AgC h0;obtain⟨a1,rfl⟩:=Eg h1;obtain⟨a2,rfl⟩:=Eg h2;obtain⟨a3,e3⟩:=Ag9 h3;exact⟨⟨a0,a1,a2,a3⟩,ALe.agg (es:=[_,_,_,_]) (.cons e0 (.cons (DLe.refl _) (.cons (DLe.refl _) (.cons e3 .nil))))⟩
end Go.Proofs.M
namespace Go.Proofs.YtdlcbilgemnomaaGreat
set_option maxRecDepth 100000
theorem Tryz.own:ownKnob Tryz.prog.godebug=none:=by kernel_rfl
theorem Tryz.laidOut:laidOutB Tryz.prog=true:=by kernel_rfl
theorem J.maps:mapsRowed Tryz.checked.prog=true:=by kernel_rfl
theorem J.stops:(Tryz.checked.prog.stops == [])=true:=by kernel_rfl
theorem J.stopKnobs:(Tryz.checked.prog.stopKnobs == [])=true:=by kernel_rfl
theorem J.keys:(Rows.meshPartsRow.plainKeys == Tryz.checked.prog.plainKeys)=true:=by kernel_rfl
theorem J.heard:Tryz.checked.prog.stopsHeard=true:=by kernel_rfl
theorem J.enter:Tryz.checked.prog.mayEnter=true:=by kernel_rfl
theorem J.lift:(Rows.meshPartsRow.lifted == Tryz.checked.prog.liftsFinal)=true:=by kernel_rfl
theorem J.make:(Tryz.checked.prog.make == some Rows.meshPartsRow.make)=true:=by kernel_rfl
end Go.Proofs.YtdlcbilgemnomaaGreat
namespace Go.Proofs.M
open Go Go.Sx Go.Proofs Go.Proofs.T Go.Proofs.Q
open Go.Proofs.P (Nb nbs Rk rkA rkErr checkNb hearM countM forgetM select')
attribute [local irreducible] VR VC thenQ blockQ retL
def ZO (loads:List Ld) (sil:List Si):Bool:=(decide (loads.length<=60)||(decide (1024<loads.length)&&decide (loads.length<=1028)))&&(decide (sil.length<=60)||(decide (1024<sil.length)&&decide (sil.length<=1028)))
theorem MV (loads:List Ld) (sil:List Si):Ak 12 [AD (lds loads),AD (sis sil)] (AB (ZO loads sil)):=by
 refine Ao func12 ntmps12 results12 fun E hS=>?_
 repeat'(first|refine Ad ?_|(refine Av ?_ ?_<;>intro h hq)|fail)
 all_goals refine Aq Ae rfl ?_
 all_goals unfold ZO
 all_goals(first|(simp_all;done)|(simp_all;omega)|(rw[Bool.eq_iff_iff];simp_all;omega))
def AaB (x:MN):Bool:=ZM x.st&&decide ((x.nb.length:Int)<=40)
def T9 (m:Me):Bool:=!(decide (8<m.nodes.length)&&decide (m.nodes.length<=32)||decide (34<m.nodes.length)||decide (100<m.arr.length))&&m.nodes.all AaB
theorem Ahb {l:List MN} (h:∀i,i<l.length->AaB (l.getD i default)=true):l.all AaB=true:=by
 refine AjL.2 fun x hx=>?_
 obtain⟨i,hi,rfl⟩:=AjY.1 hx;have:=h i hi
 rwa [Ajt,AjC hi] at this
theorem Aar {l:List MN} {k:Nat} (hk:k<l.length) (h:AaB (l.getD k default)=false):l.all AaB=false:=by
 refine Bool.eq_false_iff.2 fun ha=>?_
 have h2:l.getD k default∈l:=by
  rw[Ajt,AjC hk];exact AjZ hk
 rw[AjL.1 ha _ h2] at h;cases h
theorem MU (m:Me):Ak 11 [meA m] (AB (T9 m)):=by
 refine Ao func11 ntmps11 results11 fun E hS=>?_
 repeat'(first|refine Af ?_|(refine Av ?_ ?_<;>intro h hq)|fail)
 all_goals first
  |(refine Aq Ae rfl ?_;unfold T9;rw[show(decide (8<m.nodes.length)&&decide (m.nodes.length<=32)||decide (34<m.nodes.length)||decide (100<m.arr.length))=true by simp;omega];rfl)
  |skip
 all_goals
  have e:T9 m=m.nodes.all AaB:=by
   unfold T9;rw[show(decide (8<m.nodes.length)&&decide (m.nodes.length<=32)||decide (34<m.nodes.length)||decide (100<m.arr.length))=false by simp;omega];rfl
 all_goals rw[e]
 all_goals refine Ax (ι:=Nat) (fun k=>AN [(1,.c (.ptr 1 0)),(3,AI k)] [(1,.box m.cs)]) (fun k=>k<=m.nodes.length/\∀i,i<k->AaB (m.nodes.getD i default)=true) (fun k=>m.nodes.length-k) 0 ⟨Ake _,fun i hi=>absurd hi (Aj9 _)⟩ ?_ ?_
 all_goals first
  |(show Le _ _ _
    refine lg ?_ ?_ rfl (by rfl)
    all_goals repeat'(first|exact tt0|refine⟨⟨_,rfl,?_⟩,?_⟩|exact .c .d|exact .c (.ptr rfl)|exact .FA rfl rfl|fail)
    done)
  |skip
 all_goals
  rintro k ⟨hk,hall⟩;have c1:=ZL (m.nodes.getD k default).st;have c2:=P.PB (m.nodes.getD k default).nb;by_cases hc:k<m.nodes.length
  ·have hd:=Cz k m.nodes.length;cases h1:ZM (m.nodes.getD k default).st with
   |true=>
    have d1:(!ZM (m.nodes.getD k default).st)=false:=by rw[h1];rfl
    by_cases h2:((m.nodes.getD k default).nb.length:Int)<=40
    ·have d2:(!decide (((m.nodes.getD k default).nb.length:Int)<=40))=false:=by rw[Aju h2];rfl
     repeat'(first|refine Af ?_|refine Aa (c1) ?_|refine Aa (c2) ?_|fail)
     refine⟨k+1,⟨by omega,fun i hi=>?_⟩,by omega,?_⟩
     ·by_cases h:i<k
      ·exact hall i h
      ·have:i=k:=by omega
       subst this;unfold AaB;rw[h1,Aju h2];rfl
     ·exact Al
    ·have d2:(!decide (((m.nodes.getD k default).nb.length:Int)<=40))=true:=by rw[Ajv h2];rfl
     repeat'(first|refine Af ?_|refine Aa (c1) ?_|refine Aa (c2) ?_|fail)
     refine Aq Ae rfl (Aar hc ?_);unfold AaB;rw[Ajv h2,Ak4]
   |false=>
    have d1:(!ZM (m.nodes.getD k default).st)=true:=by rw[h1];rfl
    repeat'(first|refine Af ?_|refine Aa (c1) ?_|fail)
    refine Aq Ae rfl (Aar hc ?_);unfold AaB;rw[h1,Bool.false_and]
  ·have hd:=CM k m.nodes.length
   repeat'(first|refine Ad ?_|fail)
   refine Aq Ae rfl (Ahb fun i hi=>hall i (by omega))
theorem Kh (m:Me):Ak 20 [meA m,meA m] (AB true):=by
 have d0:∀a:Int,decide (a≠a)=false:=fun a=>by simp
 have d1:=d0 (m.nodes.length:Nat);have d2:=d0 (m.arr.length:Nat);have d3:=d0 m.slot;have d4:=d0 m.turns;refine Ao func20 ntmps20 results20 fun E hS=>?_
 repeat'(first|refine Af ?_|fail)
 refine DJ (nm:=2) (j:=0) (n:=m.nodes.length) rfl rfl fun hbl=>?_
 refine DJ (nm:=2) (j:=3) (n:=m.arr.length) rfl rfl fun hbs=>?_
 refine Er m.nodes.length (fun k=>AN [(2,.c (.ptr 2 0)),(3,.c (.ptr 3 0)),(5,AI k)] [(2,.box m.cs),(3,.box m.cs)]) ?_ ?_
 ·exact Al
 ·intro k hk;rcases Akf k m.nodes.length with hlt|hge
  ·have dlt:=Cz k m.nodes.length;have d5:=d0 (m.nodes.getD k default).next
   repeat'(first|refine Af ?_|refine Aa (L1 (m.nodes.getD k default).st) ?_|refine Aa (P.L1 (m.nodes.getD k default).nb) ?_|refine Gc (gk rfl) rfl rfl rfl rfl rfl rfl rfl ?_|(refine Av ?_ ?_<;>intro h hq)|fail)
   ·exact absurd rfl hq
   ·refine BU (k+1) ?_;exact Al
  ·have dlt:=CM k m.nodes.length
   repeat'(first|refine Af ?_|fail)
   refine Er m.arr.length (fun k=>AN [(2,.c (.ptr 2 0)),(3,.c (.ptr 3 0)),(8,AI k)] [(2,.box m.cs),(3,.box m.cs)]) ?_ ?_
   ·exact Al
   ·intro k hk;rcases Akf k m.arr.length with hlt|hge
    ·have dlt:=Cz k m.arr.length
     repeat'(first|refine Af ?_|refine Gc (gk rfl) rfl rfl rfl rfl rfl rfl rfl ?_|(refine Av ?_ ?_<;>intro h hq)|fail)
     ·exact absurd rfl hq
     ·refine BU (k+1) ?_;exact Al
    ·have dlt:=CM k m.arr.length
     repeat'(first|refine Ad ?_|fail)
     exact AO
end Go.Proofs.M
