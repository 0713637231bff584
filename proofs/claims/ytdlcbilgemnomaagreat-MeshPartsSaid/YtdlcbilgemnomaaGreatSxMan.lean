/-
  What functions of the program hand back, and plain laws on that. No condition.
-/
import Derived.Test.YtdlcbilgemnomaaGreatSxMam
import Derived.Test.YtdlcbilgemnomaaGreatSxLibB
import Derived.Test.YtdlcbilgemnomaaGreatRows
import Derived.Test.YtdlcbilgemnomaaGreatSxMad
import Derived.Test.YtdlcbilgemnomaaGreatSxMak
import Derived.Test.YtdlcbilgemnomaaGreatSxMac
set_option linter.unusedSimpArgs false
set_option linter.unusedVariables false
section
namespace Go.Proofs.M
open Go Go.Sx Go.Proofs Go.Proofs.T Go.Proofs.Q
set_option maxRecDepth 4000
attribute [local irreducible] VR VC thenQ blockQ retL
def N3 (n i:Nat) (s:Nat):List TC:=if i+s=n then[⟨s,1,2,true,(i:Int)-1,-1⟩] else if i+s+1=n then[⟨s,1,2,false,(i:Int)+1,-1⟩] else[]
def lcK (n i:Nat):Nat->List TC
 |0=>[⟨0,0,3,false,-1,-1⟩]
 |s+1=>lcK n i s++N3 n i (s+1)
def Abx (n i:Nat):Tb:=⟨i,n,lcK n i (n-1)⟩
def Ka (n k:Nat):List Tb:=(List.range k).map (Abx n)
def I6 (n:Nat):List Tb:=Ka n n
theorem Sm (n k:Nat):Ka n (k+1)=Ka n k++[Abx n k]:=by
 unfold Ka;rw[List.range_succ,Ae2];rfl
theorem Un (n k:Nat):(Ka n k).length=k:=by simp[Ka]
theorem Ut (n i:Nat):∀s,(lcK n i s).length<=s+1
 |0=>AeU _
 |s+1=>by
  have:=Ut n i s;show(lcK n i s++N3 n i (s+1)).length<=s+2;rw[Aeh];have h:(N3 n i (s+1)).length<=1:=by
   unfold N3
   split
   ·simp
   ·split<;>simp
  omega
set_option maxHeartbeats 2000000 in
theorem Um (n:Nat) (hn:n<=100):FnS Tryz.prog 32 [AI (n:Int)] [] (AD (tbs (I6 n))) []:=by
 refine fb Tryz.func32 (by kernel_rfl) rfl Tryz.ntmps32 Tryz.results32 rfl rfl rfl rfl fun E hS=>?_
 refine AK ?_
 repeat'(first|refine sC ?_|refine Aj rfl (by exact tt0) ?_|fail)
 refine VC.le (le_nil (t:=3) (nm:=103) (T:=33) (sz:=3) rfl rfl) ?_;refine AA (ι:=Nat) (fun k=>AS [(0,AI n),(3,.c (.row 103 (Ka n k).length)),(8,AI n),(9,AI k)] [(103,.row 33 3 (rowOf Tb.enc (Ka n k)))]) (fun k=>k<=n) (fun k=>n-k) 0 (AeV _) ?_ ?_
 ·refine lg ?_ ?_ rfl (by rfl)
  all_goals repeat'(first|exact tt0|refine⟨⟨_,rfl,?_⟩,?_⟩|exact .c .d|exact .c (.row rfl rfl)|exact .Bc rfl Ai|fail)
 ·intro k hk;have hl:=Un n k;by_cases hc:k<n
  ·have hd:decide ((k:Int)<(n:Int))=true:=Aed (by omega)
   repeat'(first|refine sC ?_|refine Aj rfl (by exact tt0) ?_|(refine gD ?_;first|refine Ah rfl ?_|refine At rfl (by assumption) ?_)|fail)
   refine AA (ι:=Nat) (fun s=>AS [(0,AI n),(3,.c (.row 103 (Ka n k).length)),(8,AI n),(9,AI k),(4,AI k),(5,.c (.ptr 5 0)),(6,AI ((s+1:Nat):Int))] [(103,.row 33 3 (rowOf Tb.enc (Ka n k))),(5,.box [.d (.int .i64 k),.d (.int .i64 n),.row 104 (lcK n k s).length]),(104,.row 107 6 (rowOf TC.enc (lcK n k s)))])
    (fun s=>s+1<=n) (fun s=>n-s) 0 (by omega) ?_ ?_
   ·refine Am (fun n=>if n=104 then 15 else n) ?_ ?_ rfl (by(simp only[wfL,wfs,Ae,Ad];rfl))
    all_goals repeat'(first|exact tt0|refine⟨⟨_,rfl,?_⟩,?_⟩|exact .c .d|exact .c (.ptr rfl)|exact .c (.row rfl rfl)|exact .Bc rfl Ai|refine .box ?_|exact .nil|refine .cons ?_ ?_|exact .d|exact .row rfl rfl|fail)
   ·intro s hs;have hcl:=Ut n k s;by_cases hc2:s+1<n
    ·have hd2:decide (((s+1:Nat):Int)<(n:Int))=true:=Aed (by omega);have e:lcK n k (s+1)=lcK n k s++N3 n k (s+1):=rfl;by_cases e1:k+(s+1)=n
     ·have d1:decide ((k:Int)=(n:Int)-((s+1:Nat):Int))=true:=Aed (by omega);unfold N3 at e;rw[AeT e1] at e
      repeat'(first|refine sC ?_|refine Aj rfl (by first|exact tt0|omega) ?_|(refine gA ?_;first|refine Bf (gk rfl) rfl rfl rfl (by exact Al.symm) (by exact .row rfl (by rfl)) rfl rfl rfl (by(try dsimp only);omega) rfl rfl ?_)|(refine gD ?_;first|refine Ah rfl ?_|refine At rfl (by assumption) ?_)|fail)
      refine⟨s+1,by omega,by omega,?_⟩;rw[e,Aeh];refine Am (fun n=>if n=104 then 47 else n) ?_ ?_ rfl (by(simp only[wfL,wfs,Ae,Ad];rfl))
      all_goals repeat'(first|exact tt0|refine⟨⟨_,rfl,?_⟩,?_⟩|exact .c .d|exact .c (.ptr rfl)|exact .c (.row rfl rfl)|exact .Bc rfl Ai|(refine .Bc ?_ Ai;rw[A4];rfl)|refine .box ?_|exact .nil|refine .cons ?_ ?_|exact .d|exact .row rfl rfl|fail)
     ·have d1:decide ((k:Int)=(n:Int)-((s+1:Nat):Int))=false:=Aee (by omega);by_cases e2:k+(s+1)+1=n
      ·have d2:decide ((k:Int)=(n:Int)-((s+1:Nat):Int)-1)=true:=Aed (by omega);unfold N3 at e;rw[AeS e1,AeT e2] at e
       repeat'(first|refine sC ?_|refine Aj rfl (by first|exact tt0|omega) ?_|(refine gA ?_;first|refine Bf (gk rfl) rfl rfl rfl (by exact Al.symm) (by exact .row rfl (by rfl)) rfl rfl rfl (by(try dsimp only);omega) rfl rfl ?_)|(refine gD ?_;first|refine Ah rfl ?_|refine Ag rfl ?_|refine At rfl (by assumption) ?_)|fail)
       refine⟨s+1,by omega,by omega,?_⟩;rw[e,Aeh];refine Am (fun n=>if n=104 then 47 else n) ?_ ?_ rfl (by(simp only[wfL,wfs,Ae,Ad];rfl))
       all_goals repeat'(first|exact tt0|refine⟨⟨_,rfl,?_⟩,?_⟩|exact .c .d|exact .c (.ptr rfl)|exact .c (.row rfl rfl)|exact .Bc rfl Ai|(refine .Bc ?_ Ai;rw[A4];rfl)|refine .box ?_|exact .nil|refine .cons ?_ ?_|exact .d|exact .row rfl rfl|fail)
      ·have d2:decide ((k:Int)=(n:Int)-((s+1:Nat):Int)-1)=false:=Aee (by omega);unfold N3 at e;rw[AeS e1,AeS e2,Aez] at e
       repeat'(first|refine sC ?_|refine Aj rfl (by first|exact tt0|omega) ?_|refine Zk rfl ?_|(refine gD ?_;first|refine Ah rfl ?_|refine Ag rfl ?_|refine At rfl (by assumption) ?_)|fail)
       refine⟨s+1,by omega,by omega,?_⟩;rw[e];refine Am (fun n=>n) ?_ ?_ rfl (by(simp only[wfL,wfs,Ae,Ad];rfl))
       all_goals repeat'(first|exact tt0|refine⟨⟨_,rfl,?_⟩,?_⟩|exact .c .d|exact .c (.ptr rfl)|exact .c (.row rfl rfl)|exact .Bc rfl Ai|refine .box ?_|exact .nil|refine .cons ?_ ?_|exact .d|exact .row rfl rfl|fail)
    ·have hd2:decide (((s+1:Nat):Int)<(n:Int))=false:=Aee (by omega);have hs1:s=n-1:=by omega
     repeat'(first|refine sB ?_|refine Aj rfl (by first|exact tt0|omega) ?_|(refine gA ?_;first|refine Bf (gk rfl) rfl rfl rfl (by exact Al.symm) (by exact .row rfl (by rfl)) rfl rfl rfl (by(try dsimp only);omega) rfl rfl ?_)|(refine gD ?_;first|refine Ag rfl ?_|refine At rfl (by assumption) ?_)|fail)
     refine⟨k+1,by omega,by omega,?_⟩;rw[Sm,Aeh];refine Bv (fun n=>if n=103 then 52 else n) [104] hS ?_ ?_ rfl (by(simp only[wfL,wfs,Ae,Ad];rfl))
     all_goals repeat'(first|exact tt0|refine⟨⟨_,rfl,?_⟩,?_⟩|exact .c .d|exact .c (.row rfl rfl)|fail)
     rw[A4];refine .row (A3.append (JS Ai) (.cons (.cons .d (.cons .d (.cons ?_ .nil))) .nil));show CW _ _ _ _ (C.d (tcs (lcK n k (n-1))));rw[<-hs1];exact .Ck (by simp) rfl rfl (fun _=>rfl)
  ·have hd:decide ((k:Int)<(n:Int))=false:=Aee (by omega);have hkl:k=n:=by omega
   subst hkl
   repeat'(first|refine sB ?_|refine Aj rfl (by exact tt0) ?_|(refine gD ?_;first|refine Ag rfl ?_|refine At rfl (by assumption) ?_)|fail)
   refine An (Bv (l:=[(2,AD (tbs (Ka k k)))]) (b:=[]) (fun n=>n) [103] hS ?_ ?_ rfl (by rfl)) (RY Ab rfl rfl)
   all_goals repeat'(first|exact tt0|refine⟨⟨_,rfl,?_⟩,?_⟩|exact .c (.Ck (by(simp;done)) rfl rfl (fun _=>rfl))|fail)
theorem Qa (a b:List Int):FnS Tryz.prog 17 [AD (ints a),AD (ints b)] [] (AB (decide (a=b))) []:=by
 refine fb Tryz.func17 (by kernel_rfl) rfl Tryz.ntmps17 Tryz.results17 rfl rfl rfl rfl fun E hS=>?_
 refine BP (t:=0) rfl fun hb=>?_
 repeat'(first|refine sC ?_|refine Aj rfl (by exact tt0) ?_|(refine gD ?_;first|(refine Ay rfl ?_ ?_<;>intro h<;>have hq:=h<;>(try simp only[hqs] at hq)))|fail)
 ·refine As Ab rfl ?_;have:a≠b:=fun e=>by subst e;simp_all
  simp[this]
 ·refine AA (ι:=Nat) (fun k=>AS [(0,AD (ints a)),(1,AD (ints b)),(12,AI a.length),(13,AI k)] []) (fun k=>k<=a.length/\∀i,i<k->a.getD i default=b.getD i default) (fun k=>a.length-k) 0 ⟨AeV _,fun i hi=>absurd hi (AeQ _)⟩ ?_ ?_
  ·exact B4 ⟨rfl,rfl,rfl,rfl,trivial⟩ trivial rfl
  ·rintro k ⟨hk,hall⟩
   repeat'(first|refine sC ?_|refine Aj rfl (by first|exact tt0|omega) ?_|(refine gI ?_;first|refine Aq (gk rfl) rfl rfl rfl rfl rfl (by omega) rfl ?_)|refine Ap (by kernel_rfl) ?_|(refine gD ?_;first|(refine Ay rfl ?_ ?_<;>intro h<;>have hq:=h<;>(try simp only[hqs] at hq)))|fail)
   ·refine As Ab rfl ?_;have:a≠b:=fun e=>hq (by rw[e])
    simp[this]
   ·refine⟨k+1,⟨by omega,fun i hi=>?_⟩,by omega,B4 ⟨rfl,rfl,rfl,rfl,trivial⟩ trivial rfl⟩;by_cases hik:i<k
    ·exact hall i hik
    ·have:i=k:=by omega
     subst this;exact hq
   ·refine As Ab rfl ?_;have:a=b:=Go.Sx.ED (by omega) fun i hi=>hall i (by omega)
    simp[this]
theorem Oo (a b:List Ar):FnS Tryz.prog 37 [AD (ars a),AD (ars b)] [] (AB (decide (a=b))) []:=by
 refine fb Tryz.func37 (by kernel_rfl) rfl Tryz.ntmps37 Tryz.results37 rfl rfl rfl rfl fun E hS=>?_
 refine BP (t:=0) rfl fun hb=>?_
 repeat'(first|refine sC ?_|refine Aj rfl (by exact tt0) ?_|(refine gD ?_;first|(refine Ay rfl ?_ ?_<;>intro h<;>have hq:=h<;>(try simp only[hqs] at hq)))|fail)
 ·refine As Ab rfl ?_;have:a≠b:=fun e=>by subst e;simp_all
  simp[this]
 ·refine AA (ι:=Nat) (fun k=>AS [(0,AD (ars a)),(1,AD (ars b)),(12,AI a.length),(13,AI k)] []) (fun k=>k<=a.length/\∀i,i<k->a.getD i default=b.getD i default) (fun k=>a.length-k) 0 ⟨AeV _,fun i hi=>absurd hi (AeQ _)⟩ ?_ ?_
  ·exact B4 ⟨rfl,rfl,rfl,rfl,trivial⟩ trivial rfl
  ·rintro k ⟨hk,hall⟩
   repeat'(first|refine sC ?_|refine Aj rfl (by first|exact tt0|omega) ?_|(refine gI ?_;first|refine Aq (gk rfl) rfl rfl rfl rfl rfl (by omega) rfl ?_)|(refine gB ?_;first|refine Fu (gk rfl) rfl rfl rfl rfl rfl rfl rfl ?_)|refine Ap (by kernel_rfl) ?_|(refine gD ?_;first|(refine Ay rfl ?_ ?_<;>intro h<;>have hq:=h<;>(try simp only[hqs] at hq)))|fail)
   ·refine As Ab rfl ?_;have:a≠b:=fun e=>hq (by rw[e])
    simp[this]
   ·refine⟨k+1,⟨by omega,fun i hi=>?_⟩,by omega,B4 ⟨rfl,rfl,rfl,rfl,trivial⟩ trivial rfl⟩;by_cases hik:i<k
    ·exact hall i hik
    ·have:i=k:=by omega
     subst this;exact Adu hq
   ·refine As Ab rfl ?_;have:a=b:=Go.Sx.ED (by omega) fun i hi=>hall i (by omega)
    simp[this]
set_option maxRecDepth 100000 in
theorem Ab0:decide ((Gk (I6 2) 2).2=0)=true:=by kernel_rfl
set_option maxRecDepth 100000 in
theorem AbY:decide ((RS (Gk (I6 2) 2).1 2 [⟨1,1⟩] []).2=0/\(RS (Gk (I6 2) 2).1 2 [⟨1,1⟩] []).1.slot=2/\((RS (Gk (I6 2) 2).1 2 [⟨1,1⟩] []).1.nodes.getD 1 default).rk.rank=256/\(RS (Gk (I6 2) 2).1 2 [⟨1,1⟩] []).1.arr=[⟨1,0,1⟩]/\(RS (Gk (I6 2) 2).1 2 [⟨1,1⟩] []).1.nodes.length=2)=true:=by kernel_rfl
set_option maxRecDepth 100000 in
theorem AbZ:decide (HP (RS (Gk (I6 2) 2).1 2 [⟨1,1⟩] []).1=[-1,0])=true:=by kernel_rfl
theorem Ab1:∃m1 m2:Me,FnS Tryz.prog 13 [AD (tbs (I6 2)),AI 2] [] (.tup [meA m1,AI 0]) []/\FnS Tryz.prog 23 [meA m1,AI 2,AD (lds [⟨1,1⟩]),AD (sis [])] [] (.tup [meA m2,AI 0]) [] /\
  FnS Tryz.prog 18 [meA m2] [] (AD (ints [-1,0])) []/\m2.slot=2/\(m2.nodes.getD 1 default).rk.rank=256/\m2.arr=[⟨1,0,1⟩]/\m2.nodes.length=2:=by
 have h1:=AeC Ab0;have h2:=AeC AbY;have h3:=AeC AbZ;have s1:=Ug (I6 2) 2;have s2:=NN (Gk (I6 2) 2).1 2 [⟨1,1⟩] [];have s3:=NA (RS (Gk (I6 2) 2).1 2 [⟨1,1⟩] []).1;rw[h1] at s1;rw[h2.1] at s2;rw[h3] at s3;exact⟨_,_,s1,s2,s3,h2.2⟩
set_option maxHeartbeats 2000000 in
theorem S6:FnS Tryz.prog 10 [] [] (AB true) []:=by
 obtain⟨m1,m2,s1,s2,s3,h1,h2,h3,h4⟩:=Ab1;have hl:=Um 2 (by omega);have e1:=Qa [-1,0] [-1,0];have e2:=Oo m2.arr [⟨1,0,1⟩];have d1:decide (m2.slot=2)=true:=Aed h1;have d2:decide ((m2.nodes.getD 1 default).rk.rank=256)=true:=Aed h2;refine fb Tryz.func10 (by kernel_rfl) rfl Tryz.ntmps10 Tryz.results10 rfl rfl rfl rfl fun E hS=>?_
 repeat'(first|refine sR ?_|refine Aj rfl (by exact tt0) ?_|(refine gC ?_;first|refine Aa (hl) (gk rfl) rfl rfl rfl (by rfl) rfl (by rfl) rfl ?_|refine Aa (s1) (gk rfl) rfl rfl rfl (by rfl) rfl (by rfl) rfl ?_)|refine sq 2 rfl ?_|fail)
 refine VC.le (σ':=AS [(0,AB false),(1,.c (.ptr 1 0)),(2,AI 0)] [(1,.box m1.cs)]) ?_ ?_
 ·refine lg ?_ ?_ rfl (by rfl)
  all_goals repeat'(first|exact tt0|refine⟨⟨_,rfl,?_⟩,?_⟩|exact .c .d|exact .c (.ptr rfl)|exact .Bh rfl rfl|fail)
 repeat'(first|refine sR ?_|refine Aj rfl (by exact tt0) ?_|(refine gC ?_;first|refine V4 (nmL []) [12] [] (FnS.toW (s2)) (gk rfl) rfl rfl (by(repeat'(first|exact .nil|refine .cons ?_ ?_|exact .r (.of0 (.c .d))|refine .r ?_|exact .of0 (.c .nil)|exact .of0 (.c (A9 (by simp) rfl (by rfl) (fun _=>rfl)))|refine .of0 (.agg ?_)|exact .d))<;>fail) trivial rfl rfl rfl hS rfl (by rfl) rfl rfl rfl rfl (by(simp only[F2,List.map_cons,List.map_nil,Blk.ren,C.ren,Bw,B0,BZ,gW,D8,nmL,Nat.reduceBEq,Bool.or_false,Bool.or_true,Bool.false_or,Bool.true_or,cond_true,cond_false,Nat.reduceMul,Nat.reduceAdd])<;>rfl) (by(simp only[AV.ren,AV.Ik,List.map_cons,List.map_nil,C.ren,gW,D8,nmL,Nat.reduceBEq,Bool.or_false,Bool.or_true,Bool.false_or,Bool.true_or,cond_true,cond_false,Nat.reduceMul,Nat.reduceAdd])<;>rfl) rfl ?_)|refine sq 3 rfl ?_|fail)
 refine VC.le (σ':=AS [(0,AB false),(1,.c (.ptr 1 0)),(2,AI 0),(3,AI 0)] [(1,.box m2.cs)]) ?_ ?_
 ·refine lg ?_ ?_ rfl (by rfl)
  all_goals repeat'(first|exact tt0|refine⟨⟨_,rfl,?_⟩,?_⟩|exact .c .d|exact .c (.ptr rfl)|exact .Bh rfl rfl|fail)
 repeat'(first|refine sB ?_|refine Aj rfl (by exact tt0) ?_|(refine gC ?_;first|refine Aa (s3) (gk rfl) rfl rfl rfl (by rfl) rfl (by rfl) rfl ?_|refine AJ [30] (e1) (gk rfl) rfl (by(repeat'(first|exact .nil|refine .cons ?_ ?_|exact .of0 (.c .d)|exact .of0 (.c (A9 (by simp) rfl (by rfl) (fun _=>rfl)))))<;>fail) (by rfl) rfl (by rfl) rfl (by rfl) rfl ?_|refine AJ [46] (e2) (gk rfl) rfl (by(repeat'(first|exact .nil|refine .cons ?_ ?_|exact .of0 (.c .d)|exact .of0 (.c (A9 (by simp) rfl (by rfl) (fun _=>rfl)))))<;>fail) (by rfl) rfl (by rfl) rfl (by rfl) rfl ?_)|(refine gI ?_;first|refine D4 (gk rfl) rfl rfl rfl rfl (by omega) rfl ?_)|refine Az rfl (by assumption) ?_|fail)
 exact As Ab rfl (Aed h3).symm
end Go.Proofs.M
end
section
namespace Go.Proofs.M
open Go Go.Sx Go.Proofs Go.Proofs.T Go.Proofs.Q
open Go.Proofs.P (Nb nbs)
abbrev nbA (x:Nb):AV:=.agg x.cs
abbrev AcY:List Sh:=[.int .i64,.int .i64,.int .i64,.bool,.int .i64,.int .i64]
theorem AaP {d:D} (h:Bx (.sl AcY) d):∃l:List TC,DLe d (tcs l):=by
 unfold Bx at h;obtain⟨n,f,rfl,_,hf⟩:=h;obtain⟨l,_,_,hl⟩:=KP TC.enc (fun _=>True) (n:=n) (sz:=6) (f:=f) (fun i hi=>by
  have:=hf i hi;simp only[EM] at this;obtain⟨h0,h1,h2,h3,h4,h5,_⟩:=this;obtain⟨a0,e0,w0⟩:∃n,f i 0=.int .i64 n/\(Lit.int .i64 n).wf=true:=by unfold Bx at h0;exact h0
  obtain⟨a1,e1,w1⟩:∃n,f i 1=.int .i64 n/\(Lit.int .i64 n).wf=true:=by unfold Bx at h1;exact h1
  obtain⟨a2,e2,w2⟩:∃n,f i 2=.int .i64 n/\(Lit.int .i64 n).wf=true:=by unfold Bx at h2;exact h2
  obtain⟨a3,e3⟩:∃n,f i 3=.bool n:=by unfold Bx at h3;exact h3
  obtain⟨a4,e4,w4⟩:∃n,f i 4=.int .i64 n/\(Lit.int .i64 n).wf=true:=by unfold Bx at h4;exact h4
  obtain⟨a5,e5,w5⟩:∃n,f i 5=.int .i64 n/\(Lit.int .i64 n).wf=true:=by unfold Bx at h5;exact h5
  refine⟨⟨a0,a1,a2,a3,a4,a5⟩,trivial,fun j hj=>?_⟩;have:j=0\/j=1\/j=2\/j=3\/j=4\/j=5:=by omega
  rcases this with rfl|rfl|rfl|rfl|rfl|rfl
  ·rw[show f i 0=_ from e0];exact DLe.refl _
  ·rw[show f i 1=_ from e1];exact DLe.refl _
  ·rw[show f i 2=_ from e2];exact DLe.refl _
  ·rw[show f i 3=_ from e3];exact DLe.refl _
  ·rw[show f i 4=_ from e4];exact DLe.refl _
  ·rw[show f i 5=_ from e5];exact DLe.refl _)
 exact⟨l,hl⟩
abbrev AdG:List Sh:=[.int .i64,.int .i64,.int .i64,.int .i64,.int .i64,.str]
theorem Abn {d:D} (h:Bx (.sl AdG) d):∃l:List Pk,DLe d (pks l):=by
 unfold Bx at h;obtain⟨n,f,rfl,_,hf⟩:=h;obtain⟨l,_,_,hl⟩:=KP Pk.enc (fun _=>True) (n:=n) (sz:=6) (f:=f) (fun i hi=>by
  have:=hf i hi;simp only[EM] at this;obtain⟨h0,h1,h2,h3,h4,h5,_⟩:=this;obtain⟨a0,e0,w0⟩:∃n,f i 0=.int .i64 n/\(Lit.int .i64 n).wf=true:=by unfold Bx at h0;exact h0
  obtain⟨a1,e1,w1⟩:∃n,f i 1=.int .i64 n/\(Lit.int .i64 n).wf=true:=by unfold Bx at h1;exact h1
  obtain⟨a2,e2,w2⟩:∃n,f i 2=.int .i64 n/\(Lit.int .i64 n).wf=true:=by unfold Bx at h2;exact h2
  obtain⟨a3,e3,w3⟩:∃n,f i 3=.int .i64 n/\(Lit.int .i64 n).wf=true:=by unfold Bx at h3;exact h3
  obtain⟨a4,e4,w4⟩:∃n,f i 4=.int .i64 n/\(Lit.int .i64 n).wf=true:=by unfold Bx at h4;exact h4
  obtain⟨a5,e5,w5⟩:∃n:ByteArray,f i 5=.str n/\n.size<=maxLen:=by unfold Bx at h5;exact h5
  refine⟨⟨a0,a1,a2,a3,a4,a5⟩,trivial,fun j hj=>?_⟩;have:j=0\/j=1\/j=2\/j=3\/j=4\/j=5:=by omega
  rcases this with rfl|rfl|rfl|rfl|rfl|rfl
  ·rw[show f i 0=_ from e0];exact DLe.refl _
  ·rw[show f i 1=_ from e1];exact DLe.refl _
  ·rw[show f i 2=_ from e2];exact DLe.refl _
  ·rw[show f i 3=_ from e3];exact DLe.refl _
  ·rw[show f i 4=_ from e4];exact DLe.refl _
  ·rw[show f i 5=_ from e5];exact DLe.refl _)
 exact⟨l,hl⟩
abbrev AdL:List Sh:=[.int .i64,.int .i64,.int .i64,.str,.sl [.int .i64]]
theorem AbF {d:D} (h:Bx (.sl AdL) d):∃l:List Hd,DLe d (hds l):=by
 unfold Bx at h;obtain⟨n,f,rfl,_,hf⟩:=h;obtain⟨l,_,_,hl⟩:=KP Hd.enc (fun _=>True) (n:=n) (sz:=5) (f:=f) (fun i hi=>by
  have:=hf i hi;simp only[EM] at this;obtain⟨h0,h1,h2,h3,h4,_⟩:=this;obtain⟨a0,e0,w0⟩:∃n,f i 0=.int .i64 n/\(Lit.int .i64 n).wf=true:=by unfold Bx at h0;exact h0
  obtain⟨a1,e1,w1⟩:∃n,f i 1=.int .i64 n/\(Lit.int .i64 n).wf=true:=by unfold Bx at h1;exact h1
  obtain⟨a2,e2,w2⟩:∃n,f i 2=.int .i64 n/\(Lit.int .i64 n).wf=true:=by unfold Bx at h2;exact h2
  obtain⟨a3,e3,w3⟩:∃n:ByteArray,f i 3=.str n/\n.size<=maxLen:=by unfold Bx at h3;exact h3
  obtain⟨a4,e4,_⟩:=ZF h4;refine⟨⟨a0,a1,a2,a3,a4⟩,trivial,fun j hj=>?_⟩;have:j=0\/j=1\/j=2\/j=3\/j=4:=by omega
  rcases this with rfl|rfl|rfl|rfl|rfl
  ·rw[show f i 0=_ from e0];exact DLe.refl _
  ·rw[show f i 1=_ from e1];exact DLe.refl _
  ·rw[show f i 2=_ from e2];exact DLe.refl _
  ·rw[show f i 3=_ from e3];exact DLe.refl _
  ·exact e4)
 exact⟨l,hl⟩
abbrev AdE:List Sh:=[.int .i64,.int .i64]
theorem Abg {d:D} (h:Bx (.sl AdE) d):∃l:List Sn,DLe d (sns l):=by
 unfold Bx at h;obtain⟨n,f,rfl,_,hf⟩:=h;obtain⟨l,_,_,hl⟩:=KP Sn.enc (fun _=>True) (n:=n) (sz:=2) (f:=f) (fun i hi=>by
  have:=hf i hi;simp only[EM] at this;obtain⟨h0,h1,_⟩:=this;obtain⟨a0,e0,w0⟩:∃n,f i 0=.int .i64 n/\(Lit.int .i64 n).wf=true:=by unfold Bx at h0;exact h0
  obtain⟨a1,e1,w1⟩:∃n,f i 1=.int .i64 n/\(Lit.int .i64 n).wf=true:=by unfold Bx at h1;exact h1
  refine⟨⟨a0,a1⟩,trivial,fun j hj=>?_⟩;have:j=0\/j=1:=by omega
  rcases this with rfl|rfl
  ·rw[show f i 0=_ from e0];exact DLe.refl _
  ·rw[show f i 1=_ from e1];exact DLe.refl _)
 exact⟨l,hl⟩
abbrev AdH:List Sh:=[.int .i64,.int .i64,.int .i64,.int .i64,.int .i64,.int .i64]
theorem Abs {d:D} (h:Bx (.sl AdH) d):∃l:List Nb,DLe d (nbs l):=by
 unfold Bx at h;obtain⟨n,f,rfl,_,hf⟩:=h;obtain⟨l,_,_,hl⟩:=KP Nb.enc (fun _=>True) (n:=n) (sz:=6) (f:=f) (fun i hi=>by
  have:=hf i hi;simp only[EM] at this;obtain⟨h0,h1,h2,h3,h4,h5,_⟩:=this;obtain⟨a0,e0,w0⟩:∃n,f i 0=.int .i64 n/\(Lit.int .i64 n).wf=true:=by unfold Bx at h0;exact h0
  obtain⟨a1,e1,w1⟩:∃n,f i 1=.int .i64 n/\(Lit.int .i64 n).wf=true:=by unfold Bx at h1;exact h1
  obtain⟨a2,e2,w2⟩:∃n,f i 2=.int .i64 n/\(Lit.int .i64 n).wf=true:=by unfold Bx at h2;exact h2
  obtain⟨a3,e3,w3⟩:∃n,f i 3=.int .i64 n/\(Lit.int .i64 n).wf=true:=by unfold Bx at h3;exact h3
  obtain⟨a4,e4,w4⟩:∃n,f i 4=.int .i64 n/\(Lit.int .i64 n).wf=true:=by unfold Bx at h4;exact h4
  obtain⟨a5,e5,w5⟩:∃n,f i 5=.int .i64 n/\(Lit.int .i64 n).wf=true:=by unfold Bx at h5;exact h5
  refine⟨⟨a0,a1,a2,a3,a4,a5⟩,trivial,fun j hj=>?_⟩;have:j=0\/j=1\/j=2\/j=3\/j=4\/j=5:=by omega
  rcases this with rfl|rfl|rfl|rfl|rfl|rfl
  ·rw[show f i 0=_ from e0];exact DLe.refl _
  ·rw[show f i 1=_ from e1];exact DLe.refl _
  ·rw[show f i 2=_ from e2];exact DLe.refl _
  ·rw[show f i 3=_ from e3];exact DLe.refl _
  ·rw[show f i 4=_ from e4];exact DLe.refl _
  ·rw[show f i 5=_ from e5];exact DLe.refl _)
 exact⟨l,hl⟩
abbrev AdM:List Sh:=[.int .i64,.int .i64,.int .i64]
theorem Ab4 {d:D} (h:Bx (.sl AdM) d):∃l:List Ar,DLe d (ars l):=by
 unfold Bx at h;obtain⟨n,f,rfl,_,hf⟩:=h;obtain⟨l,_,_,hl⟩:=KP Ar.enc (fun _=>True) (n:=n) (sz:=3) (f:=f) (fun i hi=>by
  have:=hf i hi;simp only[EM] at this;obtain⟨h0,h1,h2,_⟩:=this;obtain⟨a0,e0,w0⟩:∃n,f i 0=.int .i64 n/\(Lit.int .i64 n).wf=true:=by unfold Bx at h0;exact h0
  obtain⟨a1,e1,w1⟩:∃n,f i 1=.int .i64 n/\(Lit.int .i64 n).wf=true:=by unfold Bx at h1;exact h1
  obtain⟨a2,e2,w2⟩:∃n,f i 2=.int .i64 n/\(Lit.int .i64 n).wf=true:=by unfold Bx at h2;exact h2
  refine⟨⟨a0,a1,a2⟩,trivial,fun j hj=>?_⟩;have:j=0\/j=1\/j=2:=by omega
  rcases this with rfl|rfl|rfl
  ·rw[show f i 0=_ from e0];exact DLe.refl _
  ·rw[show f i 1=_ from e1];exact DLe.refl _
  ·rw[show f i 2=_ from e2];exact DLe.refl _)
 exact⟨l,hl⟩
abbrev AdK:List Sh:=[.int .i64,.int .i64]
theorem AbA {d:D} (h:Bx (.sl AdK) d):∃l:List Ld,DLe d (lds l):=by
 unfold Bx at h;obtain⟨n,f,rfl,_,hf⟩:=h;obtain⟨l,_,_,hl⟩:=KP Ld.enc (fun _=>True) (n:=n) (sz:=2) (f:=f) (fun i hi=>by
  have:=hf i hi;simp only[EM] at this;obtain⟨h0,h1,_⟩:=this;obtain⟨a0,e0,w0⟩:∃n,f i 0=.int .i64 n/\(Lit.int .i64 n).wf=true:=by unfold Bx at h0;exact h0
  obtain⟨a1,e1,w1⟩:∃n,f i 1=.int .i64 n/\(Lit.int .i64 n).wf=true:=by unfold Bx at h1;exact h1
  refine⟨⟨a0,a1⟩,trivial,fun j hj=>?_⟩;have:j=0\/j=1:=by omega
  rcases this with rfl|rfl
  ·rw[show f i 0=_ from e0];exact DLe.refl _
  ·rw[show f i 1=_ from e1];exact DLe.refl _)
 exact⟨l,hl⟩
abbrev AdF:List Sh:=[.int .i64,.int .i64,.int .i64,.int .i64]
theorem Abh {d:D} (h:Bx (.sl AdF) d):∃l:List Si,DLe d (sis l):=by
 unfold Bx at h;obtain⟨n,f,rfl,_,hf⟩:=h;obtain⟨l,_,_,hl⟩:=KP Si.enc (fun _=>True) (n:=n) (sz:=4) (f:=f) (fun i hi=>by
  have:=hf i hi;simp only[EM] at this;obtain⟨h0,h1,h2,h3,_⟩:=this;obtain⟨a0,e0,w0⟩:∃n,f i 0=.int .i64 n/\(Lit.int .i64 n).wf=true:=by unfold Bx at h0;exact h0
  obtain⟨a1,e1,w1⟩:∃n,f i 1=.int .i64 n/\(Lit.int .i64 n).wf=true:=by unfold Bx at h1;exact h1
  obtain⟨a2,e2,w2⟩:∃n,f i 2=.int .i64 n/\(Lit.int .i64 n).wf=true:=by unfold Bx at h2;exact h2
  obtain⟨a3,e3,w3⟩:∃n,f i 3=.int .i64 n/\(Lit.int .i64 n).wf=true:=by unfold Bx at h3;exact h3
  refine⟨⟨a0,a1,a2,a3⟩,trivial,fun j hj=>?_⟩;have:j=0\/j=1\/j=2\/j=3:=by omega
  rcases this with rfl|rfl|rfl|rfl
  ·rw[show f i 0=_ from e0];exact DLe.refl _
  ·rw[show f i 1=_ from e1];exact DLe.refl _
  ·rw[show f i 2=_ from e2];exact DLe.refl _
  ·rw[show f i 3=_ from e3];exact DLe.refl _)
 exact⟨l,hl⟩
theorem DD {d:D} (h:Bx (.int .i64) d):∃n,d=.int .i64 n:=by
 unfold Bx at h;obtain⟨n,e,_⟩:=h;exact⟨n,e⟩
abbrev AdJ:List Sh:=[.int .i64,.int .i64,.sl AcY,.int .i64,.sl AdG,.sl AdL,.sl AdE,.int .i64,.int .i64,.int .i64,.int .i64,.int .i64,.int .i64,.int .i64,.int .i64,.int .i64,.int .i64,.int .i64,.int .i64,.int .i64,.sl AdH,.int .i64]
theorem Abu {d:D} (h:Bx (.sl AdJ) d):∃l:List MN,DLe d (mns l):=by
 unfold Bx at h;obtain⟨n,f,rfl,_,hf⟩:=h;obtain⟨l,_,_,hl⟩:=KP MN.enc (fun _=>True) (n:=n) (sz:=22) (f:=f) (fun i hi=>by
  have:=hf i hi;simp only[EM] at this;obtain⟨h0,h1,h2,h3,h4,h5,h6,h7,h8,h9,h10,h11,h12,h13,h14,h15,h16,h17,h18,h19,h20,h21,_⟩:=this;obtain⟨a0,e0⟩:=DD h0;obtain⟨a1,e1⟩:=DD h1;obtain⟨a2,e2⟩:=AaP h2;obtain⟨a3,e3⟩:=DD h3;obtain⟨a4,e4⟩:=Abn h4;obtain⟨a5,e5⟩:=AbF h5;obtain⟨a6,e6⟩:=Abg h6;obtain⟨a7,e7⟩:=DD h7;obtain⟨a8,e8⟩:=DD h8;obtain⟨a9,e9⟩:=DD h9;obtain⟨a10,e10⟩:=DD h10;obtain⟨a11,e11⟩:=DD h11;obtain⟨a12,e12⟩:=DD h12;obtain⟨a13,e13⟩:=DD h13;obtain⟨a14,e14⟩:=DD h14;obtain⟨a15,e15⟩:=DD h15;obtain⟨a16,e16⟩:=DD h16;obtain⟨a17,e17⟩:=DD h17;obtain⟨a18,e18⟩:=DD h18;obtain⟨a19,e19⟩:=DD h19;obtain⟨a20,e20⟩:=Abs h20;obtain⟨a21,e21⟩:=DD h21;refine⟨⟨⟨⟨a0,a1,a2⟩,⟨a3,a4⟩,a5,a6,a7,a8,a9,a10,a11,a12,a13⟩,⟨a14,a15,a16,a17,a18,a19⟩,a20,a21⟩,trivial,fun j hj=>?_⟩;have:j=0\/j=1\/j=2\/j=3\/j=4\/j=5\/j=6\/j=7\/j=8\/j=9\/j=10\/j=11\/j=12\/j=13\/j=14\/j=15\/j=16\/j=17\/j=18\/j=19\/j=20\/j=21:=by omega
  rcases this with rfl|rfl|rfl|rfl|rfl|rfl|rfl|rfl|rfl|rfl|rfl|rfl|rfl|rfl|rfl|rfl|rfl|rfl|rfl|rfl|rfl|rfl
  ·rw[show f i 0=_ from e0];exact DLe.refl _
  ·rw[show f i 1=_ from e1];exact DLe.refl _
  ·exact e2
  ·rw[show f i 3=_ from e3];exact DLe.refl _
  ·exact e4
  ·exact e5
  ·exact e6
  ·rw[show f i 7=_ from e7];exact DLe.refl _
  ·rw[show f i 8=_ from e8];exact DLe.refl _
  ·rw[show f i 9=_ from e9];exact DLe.refl _
  ·rw[show f i 10=_ from e10];exact DLe.refl _
  ·rw[show f i 11=_ from e11];exact DLe.refl _
  ·rw[show f i 12=_ from e12];exact DLe.refl _
  ·rw[show f i 13=_ from e13];exact DLe.refl _
  ·rw[show f i 14=_ from e14];exact DLe.refl _
  ·rw[show f i 15=_ from e15];exact DLe.refl _
  ·rw[show f i 16=_ from e16];exact DLe.refl _
  ·rw[show f i 17=_ from e17];exact DLe.refl _
  ·rw[show f i 18=_ from e18];exact DLe.refl _
  ·rw[show f i 19=_ from e19];exact DLe.refl _
  ·exact e20
  ·rw[show f i 21=_ from e21];exact DLe.refl _)
 exact⟨l,hl⟩
abbrev Ad9:List Sh:=[.int .i64,.int .i64,.sl AcY]
abbrev AdI:List Sh:=[.sl AdJ,.int .i64,.int .i64,.sl AdM]
theorem Abv {a:AV} (h:∃ds,a=Ab2 true ds/\CU AdI ds):∃x:Me,ALe (P:=Tryz.prog) a (meA x):=by
 obtain⟨ds,rfl,h⟩:=h;have hl:=IE h
 match ds,hl,h with
 |[d0,d1,d2,d3],_,h=>
  simp only[CU] at h;obtain⟨h0,h1,h2,h3,_⟩:=h;obtain⟨a0,e0⟩:=Abu h0;obtain⟨a1,rfl⟩:=DD h1;obtain⟨a2,rfl⟩:=DD h2;obtain⟨a3,e3⟩:=Ab4 h3;exact⟨⟨a0,a1,a2,a3⟩,ALe.agg (es:=[_,_,_,_]) (.cons e0 (.cons (DLe.refl _) (.cons (DLe.refl _) (.cons e3 .nil))))⟩
end Go.Proofs.M
namespace Go.Proofs.YtdlcbilgemnomaaGreat
set_option maxRecDepth 100000
theorem Tryz.own:ownKnob Tryz.prog.godebug=none:=by kernel_rfl
theorem Tryz.laidOut:laidOutB Tryz.prog=true:=by kernel_rfl
theorem J.maps:mapsRowed Tryz.checked.prog=true:=by kernel_rfl
theorem J.stops:(Tryz.checked.prog.stops == [])=true:=by kernel_rfl
theorem J.stopKnobs:(Tryz.checked.prog.stopKnobs == [])=true:=by kernel_rfl
theorem J.keys:(Rows.meshPartsRow.plainKeys == Tryz.checked.prog.plainKeys)=true:=by kernel_rfl
theorem J.heard:Tryz.checked.prog.stopsHeard=true:=by kernel_rfl
theorem J.enter:Tryz.checked.prog.mayEnter=true:=by kernel_rfl
theorem J.lift:(Rows.meshPartsRow.lifted == Tryz.checked.prog.liftsFinal)=true:=by kernel_rfl
theorem J.make:(Tryz.checked.prog.make == some Rows.meshPartsRow.make)=true:=by kernel_rfl
end Go.Proofs.YtdlcbilgemnomaaGreat
end
section
namespace Go.Proofs.P
open Go Go.Sx
set_option maxRecDepth 4000
attribute [local irreducible] VR VC thenQ blockQ retL

theorem Ac4 {x y:Nb} (h:[SV.int IntKind.i64 x.ack,SV.int IntKind.i64 x.att,SV.int IntKind.i64 x.slot,SV.int IntKind.i64 x.rank,SV.int IntKind.i64 x.epoch,SV.int IntKind.i64 x.node].reverse=
  [SV.int IntKind.i64 y.ack,SV.int IntKind.i64 y.att,SV.int IntKind.i64 y.slot,SV.int IntKind.i64 y.rank,SV.int IntKind.i64 y.epoch,SV.int IntKind.i64 y.node].reverse):x=y:=by
 have h:=List.reverse_inj.1 h;cases x;cases y;simp only[List.cons.injEq,SV.int.injEq,true_and,and_true] at h;obtain⟨rfl,rfl,rfl,rfl,rfl,rfl⟩:=h
 rfl
theorem ED {a b:List Nb} (hl:a.length=b.length) (h:∀i,i<a.length->a.getD i default=b.getD i default):a=b:=by
 apply List.ext_getElem hl
 intro i h1 h2;have:=h i h1;simpa [Aec,h1,h2] using this
theorem Ge (a b:List Nb):FnS Tryz.prog 51 [AD (nbs a),AD (nbs b)] [] (AB (decide (a=b))) []:=by
 refine fb Tryz.func51 (by kernel_rfl) rfl Tryz.ntmps51 Tryz.results51 rfl rfl rfl rfl fun E hS=>?_
 refine BP (t:=0) rfl fun hb=>?_
 repeat'(first|refine sC ?_|refine Aj rfl (by exact tt0) ?_|(refine gD ?_;first|(refine Ay rfl ?_ ?_<;>intro h<;>have hq:=h<;>(try simp only[hqs] at hq)))|fail)
 ·refine As Ab rfl ?_;have:a≠b:=fun e=>by subst e;simp_all
  simp[this]
 ·refine AA (ι:=Nat) (fun k=>AS [(0,AD (nbs a)),(1,AD (nbs b)),(5,AI k)] []) (fun k=>k<=a.length/\∀i,i<k->a.getD i default=b.getD i default) (fun k=>a.length-k) 0 ⟨AeV _,fun i hi=>absurd hi (AeQ _)⟩ ?_ ?_
  ·exact B4 ⟨rfl,rfl,rfl,trivial⟩ trivial rfl
  ·rintro k ⟨hk,hall⟩
   repeat'(first|refine sC ?_|refine Aj rfl (by first|exact tt0|omega) ?_|(refine gI ?_;first|refine Aq (gk rfl) rfl rfl rfl rfl rfl (by omega) rfl ?_)|(refine gB ?_;first|refine Fu (gk rfl) rfl rfl rfl rfl rfl rfl rfl ?_)|refine Ap (by kernel_rfl) ?_|(refine gD ?_;first|(refine Ay rfl ?_ ?_<;>intro h<;>have hq:=h<;>(try simp only[hqs] at hq)))|fail)
   ·refine As Ab rfl ?_;have:a≠b:=fun e=>hq (by rw[e])
    simp[this]
   ·refine⟨k+1,⟨by omega,fun i hi=>?_⟩,by omega,B4 ⟨rfl,rfl,rfl,trivial⟩ trivial rfl⟩;by_cases hik:i<k
    ·exact hall i hik
    ·have:i=k:=by omega
     subst this;exact Ac4 hq
   ·refine As Ab rfl ?_;have:a=b:=ED (by omega) fun i hi=>hall i (by omega)
    simp[this]

theorem JP (a:List Nb):FnS Tryz.prog 51 [AD (nbs a),AD (nbs a)] [] (AB true) []:=by
 have:=Ge a a;simpa using this
end Go.Proofs.P
end
section
namespace Go.Proofs.M
open Go Go.Sx Go.Proofs Go.Proofs.T Go.Proofs.Q
open Go.Proofs.P (Nb nbs Rk rkA rkErr checkNb hearM countM forgetM select')
set_option maxRecDepth 4000
attribute [local irreducible] VR VC thenQ blockQ retL
def VT (x:MN):Bool:=U0 x.st&&decide ((x.nb.length:Int)<=40)
def ZR (m:Me):Bool:=!(decide (8<m.nodes.length)&&decide (m.nodes.length<=32)||decide (34<m.nodes.length)||decide (100<m.arr.length))&&m.nodes.all VT
theorem Ab5 {l:List MN} (h:∀i,i<l.length->VT (l.getD i default)=true):l.all VT=true:=by
 refine Aeu.2 fun x hx=>?_
 obtain⟨i,hi,rfl⟩:=AeH.1 hx;have:=h i hi
 rwa [Aec,Ael hi] at this
theorem VG {l:List MN} {k:Nat} (hk:k<l.length) (h:VT (l.getD k default)=false):l.all VT=false:=by
 refine Bool.eq_false_iff.2 fun ha=>?_
 have h2:l.getD k default∈l:=by
  rw[Aec,Ael hk];exact AeI hk
 rw[Aeu.1 ha _ h2] at h;cases h
set_option maxHeartbeats 1000000 in
theorem U2 (m:Me):FnS Tryz.prog 11 [meA m] [] (AB (ZR m)) []:=by
 refine fb Tryz.func11 (by kernel_rfl) rfl Tryz.ntmps11 Tryz.results11 rfl rfl rfl rfl fun E hS=>?_
 repeat'(first|refine sC ?_|refine Aj rfl (by exact tt0) ?_|(refine Ax rfl ?_ ?_<;>intro h<;>have hq:=h<;>(try simp only[hqs] at hq))|(refine gD ?_;first|refine Ah rfl ?_|(refine Ay rfl ?_ ?_<;>intro h<;>have hq:=h<;>(try simp only[hqs] at hq)))|fail)
 all_goals first
  |(refine As Ab rfl ?_;unfold ZR;rw[show(decide (8<m.nodes.length)&&decide (m.nodes.length<=32)||decide (34<m.nodes.length)||decide (100<m.arr.length))=true by simp;omega];rfl)
  |skip
 all_goals
  have e:ZR m=m.nodes.all VT:=by
   unfold ZR;rw[show(decide (8<m.nodes.length)&&decide (m.nodes.length<=32)||decide (34<m.nodes.length)||decide (100<m.arr.length))=false by simp;omega];rfl
 all_goals rw[e]
 all_goals refine AA (ι:=Nat) (fun k=>AS [(1,.c (.ptr 1 0)),(3,AI k)] [(1,.box m.cs)]) (fun k=>k<=m.nodes.length/\∀i,i<k->VT (m.nodes.getD i default)=true) (fun k=>m.nodes.length-k) 0 ⟨AeV _,fun i hi=>absurd hi (AeQ _)⟩ ?_ ?_
 all_goals first
  |(show Le _ _ _
    refine lg ?_ ?_ rfl (by rfl)
    all_goals repeat'(first|exact tt0|refine⟨⟨_,rfl,?_⟩,?_⟩|exact .c .d|exact .c (.ptr rfl)|exact .Bh rfl rfl|fail)
    done)
  |skip
 all_goals
  rintro k ⟨hk,hall⟩;have c1:=UZ (m.nodes.getD k default).st;have c2:=P.Mv (m.nodes.getD k default).nb;by_cases hc:k<m.nodes.length
  ·have hd:decide ((k:Int)<(m.nodes.length:Int))=true:=Aed (by omega);cases h1:U0 (m.nodes.getD k default).st with
   |true=>
    have d1:(!U0 (m.nodes.getD k default).st)=false:=by rw[h1];rfl
    by_cases h2:((m.nodes.getD k default).nb.length:Int)<=40
    ·have d2:(!decide (((m.nodes.getD k default).nb.length:Int)<=40))=false:=by rw[Aed h2];rfl
     repeat'(first|refine sC ?_|refine Aj rfl (by first|exact tt0|omega) ?_|(refine gC ?_;first|refine Aa (c1) (gk rfl) rfl rfl rfl (by rfl) rfl (by rfl) rfl ?_|refine Aa (c2) (gk rfl) rfl rfl rfl (by rfl) rfl (by rfl) rfl ?_)|(refine gI ?_;first|refine Aq (gk rfl) rfl rfl rfl rfl rfl (by omega) rfl ?_)|refine Az rfl (by assumption) ?_|(refine gD ?_;first|refine Ah rfl ?_|refine Ag rfl ?_|refine At rfl (by assumption) ?_)|fail)
     refine⟨k+1,⟨by omega,fun i hi=>?_⟩,by omega,?_⟩
     ·by_cases h:i<k
      ·exact hall i h
      ·have:i=k:=by omega
       subst this;unfold VT;rw[h1,Aed h2];rfl
     ·refine lg ?_ ?_ rfl (by rfl)
      all_goals repeat'(first|exact tt0|refine⟨⟨_,rfl,?_⟩,?_⟩|exact .c .d|exact .c (.ptr rfl)|exact .Bh rfl rfl|fail)
    ·have d2:(!decide (((m.nodes.getD k default).nb.length:Int)<=40))=true:=by rw[Aee h2];rfl
     repeat'(first|refine sC ?_|refine Aj rfl (by exact tt0) ?_|(refine gC ?_;first|refine Aa (c1) (gk rfl) rfl rfl rfl (by rfl) rfl (by rfl) rfl ?_|refine Aa (c2) (gk rfl) rfl rfl rfl (by rfl) rfl (by rfl) rfl ?_)|(refine gI ?_;first|refine Aq (gk rfl) rfl rfl rfl rfl rfl (by omega) rfl ?_)|refine Az rfl (by assumption) ?_|(refine gD ?_;first|refine Ah rfl ?_|refine At rfl (by assumption) ?_)|fail)
     refine As Ab rfl (VG hc ?_);unfold VT;rw[Aee h2,Bool.and_false]
   |false=>
    have d1:(!U0 (m.nodes.getD k default).st)=true:=by rw[h1];rfl
    repeat'(first|refine sC ?_|refine Aj rfl (by exact tt0) ?_|(refine gC ?_;first|refine Aa (c1) (gk rfl) rfl rfl rfl (by rfl) rfl (by rfl) rfl ?_)|(refine gI ?_;first|refine Aq (gk rfl) rfl rfl rfl rfl rfl (by omega) rfl ?_)|refine Az rfl (by assumption) ?_|(refine gD ?_;first|refine Ah rfl ?_|refine At rfl (by assumption) ?_)|fail)
    refine As Ab rfl (VG hc ?_);unfold VT;rw[h1,Bool.false_and]
  ·have hd:decide ((k:Int)<(m.nodes.length:Int))=false:=Aee (by omega)
   repeat'(first|refine sB ?_|refine Aj rfl (by exact tt0) ?_|(refine gD ?_;first|refine Ag rfl ?_|refine At rfl (by assumption) ?_)|fail)
   refine As Ab rfl (Ab5 fun i hi=>hall i (by omega))
set_option maxHeartbeats 2000000 in
theorem Gz (m:Me):FnS Tryz.prog 20 [meA m,meA m] [] (AB true) []:=by
 have d0:∀a:Int,decide (a≠a)=false:=fun a=>by simp
 have d1:=d0 (m.nodes.length:Nat);have d2:=d0 (m.arr.length:Nat);have d3:=d0 m.slot;have d4:=d0 m.turns;refine fb Tryz.func20 (by kernel_rfl) rfl Tryz.ntmps20 Tryz.results20 rfl rfl rfl rfl fun E hS=>?_
 repeat'(first|refine sC ?_|refine Aj rfl (by exact tt0) ?_|refine Az rfl (by assumption) ?_|(refine gD ?_;first|refine Ag rfl ?_|refine At rfl (by assumption) ?_)|fail)
 refine F8 (nm:=2) (j:=0) (n:=m.nodes.length) rfl rfl fun hbl=>?_
 refine F8 (nm:=2) (j:=3) (n:=m.arr.length) rfl rfl fun hbs=>?_
 refine AA (ι:=Nat) (fun k=>AS [(2,.c (.ptr 2 0)),(3,.c (.ptr 3 0)),(5,AI k)] [(2,.box m.cs),(3,.box m.cs)]) (fun k=>k<=m.nodes.length) (fun k=>m.nodes.length-k) 0 (AeV _) ?_ ?_
 ·refine lg ?_ ?_ rfl (by rfl)
  all_goals repeat'(first|exact tt0|refine⟨⟨_,rfl,?_⟩,?_⟩|exact .c .d|exact .c (.ptr rfl)|exact .Bh rfl rfl|fail)
 ·intro k hk;rcases AeW k m.nodes.length with hlt|hge
  ·have dlt:decide ((k:Int)<(m.nodes.length:Int))=true:=Aed (by omega);have d5:=d0 (m.nodes.getD k default).next
   repeat'(first|refine sC ?_|refine Aj rfl (by first|exact tt0|omega) ?_|(refine gC ?_;first|refine Aa (JP (m.nodes.getD k default).st) (gk rfl) rfl rfl rfl (by rfl) rfl (by rfl) rfl ?_|refine Aa (P.JP (m.nodes.getD k default).nb) (gk rfl) rfl rfl rfl (by rfl) rfl (by rfl) rfl ?_)|(refine gI ?_;first|refine Aq (gk rfl) rfl rfl rfl rfl rfl (by omega) rfl ?_)|(refine gB ?_;first|refine Fu (gk rfl) rfl rfl rfl rfl rfl rfl rfl ?_)|(refine Ax rfl ?_ ?_<;>intro h<;>have hq:=h<;>(try simp only[hqs] at hq))|refine Ap (by kernel_rfl) ?_|(refine gD ?_;first|refine Ah rfl ?_|refine Ag rfl ?_|refine At rfl (by assumption) ?_)|fail)
   ·exact absurd trivial hq
   ·refine⟨k+1,by omega,by omega,?_⟩;refine lg ?_ ?_ rfl (by rfl)
    all_goals repeat'(first|exact tt0|refine⟨⟨_,rfl,?_⟩,?_⟩|exact .c .d|exact .c (.ptr rfl)|exact .Bh rfl rfl|fail)
  ·have dlt:decide ((k:Int)<(m.nodes.length:Int))=false:=Aee (by omega)
   repeat'(first|refine sC ?_|refine Aj rfl (by exact tt0) ?_|(refine gD ?_;first|refine Ag rfl ?_|refine At rfl (by assumption) ?_)|fail)
   refine AA (ι:=Nat) (fun k=>AS [(2,.c (.ptr 2 0)),(3,.c (.ptr 3 0)),(8,AI k)] [(2,.box m.cs),(3,.box m.cs)]) (fun k=>k<=m.arr.length) (fun k=>m.arr.length-k) 0 (AeV _) ?_ ?_
   ·refine lg ?_ ?_ rfl (by rfl)
    all_goals repeat'(first|exact tt0|refine⟨⟨_,rfl,?_⟩,?_⟩|exact .c .d|exact .c (.ptr rfl)|exact .Bh rfl rfl|fail)
   ·intro k hk;rcases AeW k m.arr.length with hlt|hge
    ·have dlt:decide ((k:Int)<(m.arr.length:Int))=true:=Aed (by omega)
     repeat'(first|refine sC ?_|refine Aj rfl (by first|exact tt0|omega) ?_|(refine gI ?_;first|refine Aq (gk rfl) rfl rfl rfl rfl rfl (by omega) rfl ?_)|(refine gB ?_;first|refine Fu (gk rfl) rfl rfl rfl rfl rfl rfl rfl ?_)|refine Ap (by kernel_rfl) ?_|(refine gD ?_;first|refine Ah rfl ?_|refine At rfl (by assumption) ?_|(refine Ay rfl ?_ ?_<;>intro h<;>have hq:=h<;>(try simp only[hqs] at hq)))|fail)
     ·exact absurd trivial hq
     ·refine⟨k+1,by omega,by omega,?_⟩;refine lg ?_ ?_ rfl (by rfl)
      all_goals repeat'(first|exact tt0|refine⟨⟨_,rfl,?_⟩,?_⟩|exact .c .d|exact .c (.ptr rfl)|exact .Bh rfl rfl|fail)
    ·have dlt:decide ((k:Int)<(m.arr.length:Int))=false:=Aee (by omega)
     repeat'(first|refine sB ?_|refine Aj rfl (by exact tt0) ?_|(refine gD ?_;first|refine Ag rfl ?_|refine At rfl (by assumption) ?_)|fail)
     exact As Ab rfl rfl
end Go.Proofs.M
end
section
namespace Go.Proofs.M
open Go Go.Sx Go.Proofs Go.Proofs.T Go.Proofs.Q
set_option maxRecDepth 4000
attribute [local irreducible] VR VC thenQ blockQ retL
theorem Zf {x:Me} {j:Int} {loads:List Ld} {sil:List Si} (hm:Cj x=0) (hl:loads.length<=1024) (hsl:sil.length<=1024) (hj:0<=j/\j<=4096) (hx:x.slot+j<=16384):RS x j loads sil=(runN loads sil j.toNat x,0):=by
 have h0:C4 x loads sil=0:=by
  unfold C4;rw[AeS (fun hn=>hn hm),AeS (by omega)]
 unfold RS;rw[AeS (fun hn=>hn h0),AeS (by omega),AeS (by omega)]
theorem Wf {x:Me} {loads:List Ld} {sil:List Si} (hm:Cj x=0) (hl:loads.length<=1024) (hsl:sil.length<=1024) (hx:x.slot<16384):RM x loads sil=(GX x loads sil,0):=by
 have h0:C4 x loads sil=0:=by
  unfold C4;rw[AeS (fun hn=>hn hm),AeS (by omega)]
 unfold RM;rw[AeS (fun hn=>hn h0),AeS (by omega)]
theorem Je {x:Me} {j:Int} {loads:List Ld} {sil:List Si} (hm:Cj x=0) (hl:loads.length<=1024) (hsl:sil.length<=1024) (hj:0<=j/\j<=4096) (hx:x.slot+j<=16384):
  FnS Tryz.prog 23 [meA x,AI j,AD (lds loads),AD (sis sil)] [] (.tup [meA (runN loads sil j.toNat x),AI 0]) []:=by
 have:=NN x j loads sil
 rwa [Zf hm hl hsl hj hx] at this
set_option maxHeartbeats 4000000 in
theorem Mn (m:Me) (loads:List Ld) (sil:List Si) (s c:Int) (hs:0<=s/\s<=255) (hc:0<=c/\c<=255):FnS Tryz.prog 9 [meA m,AD (lds loads),AD (sis sil),AD (.int .u8 s),AD (.int .u8 c)] [] (AB true) []:=by
 have hf:=U2 m;have hck:=BE m;refine fb Tryz.func9 (by kernel_rfl) rfl Tryz.ntmps9 Tryz.results9 rfl rfl rfl rfl fun E hS=>?_
 repeat'(first|refine sR ?_|refine Aj rfl (by first|exact tt0|omega) ?_|(refine gC ?_;first|refine Aa (S6) (gk rfl) rfl rfl rfl (by rfl) rfl (by rfl) rfl ?_)|(refine gV ?_;first|refine Ba (gk rfl) rfl ⟨_,rfl⟩ rfl (by exact wrap_i64 (by omega)) rfl ?_)|refine sq 4 rfl ?_|(refine gD ?_;first|refine Ag rfl ?_)|fail)
 cases h1:ZR m with
 |false=>
  have d1:(!ZR m)=true:=by rw[h1];rfl
  repeat'(first|refine sB ?_|refine Aj rfl (by exact tt0) ?_|(refine gC ?_;first|refine Aa (hf) (gk rfl) rfl rfl rfl (by rfl) rfl (by rfl) rfl ?_)|refine Az rfl (by assumption) ?_|(refine gD ?_;first|refine Ah rfl ?_)|fail)
  all_goals exact As Ab rfl rfl
 |true=>
  have d1:(!ZR m)=false:=by rw[h1];rfl
  by_cases h2:Cj m=0
  ·have d2:decide (Cj m≠0)=false:=Aee (fun hn=>hn h2)
   repeat'(first|refine sR ?_|refine Aj rfl (by first|exact tt0|omega) ?_|(refine gC ?_;first|refine Aa (hf) (gk rfl) rfl rfl rfl (by rfl) rfl (by rfl) rfl ?_|refine Aa (hck) (gk rfl) rfl rfl rfl (by rfl) rfl (by rfl) rfl ?_)|refine Az rfl (by assumption) ?_|(refine Ax rfl ?_ ?_<;>intro h<;>have hq:=h<;>(try simp only[hqs] at hq))|refine sq 6 rfl ?_|(refine gD ?_;first|refine Ah rfl ?_|(refine Ay rfl ?_ ?_<;>intro h<;>have hq:=h<;>(try simp only[hqs] at hq)))|fail)
   all_goals first
    |exact As Ab rfl rfl
    |skip
   obtain⟨n,hn⟩:∃n,n=s % 41:=⟨_,rfl⟩;obtain⟨k,hk⟩:∃k,k=c % (n+1):=⟨_,rfl⟩;have hn0:0<=n/\n<=40:=by omega
   have hk0:0<=k/\k<=n:=by
    have h1:=Int.emod_nonneg c (show n+1≠0 by omega);have h2:=Int.emod_lt_of_pos c (show 0<n+1 by omega);omega
   obtain⟨hh,_⟩:=DU.1 h2;have hs1:=hh.s1;obtain⟨r1,r2,_,_⟩:=JR (loads:=loads) (sil:=sil) h2 k.toNat (by omega);have c1:=Je (loads:=loads) (sil:=sil) (j:=n) h2 (by omega) (by omega) (by omega) (by omega);have c2:=Je (loads:=loads) (sil:=sil) (j:=k) h2 (by omega) (by omega) (by omega) (by omega);have c3:=Je (loads:=loads) (sil:=sil) (j:=n-k) r1 (by omega) (by omega) (by omega) (by omega);rw[<-runN_add,show k.toNat+(n-k).toNat=n.toNat by omega] at c3;have h0:k=0->runN loads sil k.toNat m=m:=fun h=>by rw[h];rfl
   have e1:runN loads sil (1:Int).toNat m=GX m loads sil:=rfl;generalize runN loads sil n.toNat m=N at c1 c3;generalize runN loads sil k.toNat m=H at c2 c3 r1 r2 h0;have hk41:(n+1)≠0:=by omega
   refine VC.le (σ':=AS [(1,AD (lds loads)),(2,AD (sis sil)),(4,AD (.int .u8 c)),(5,.c (.ptr 5 0)),(10,AB false),(11,AI n)] [(5,.box m.cs)]) ?_ ?_
   ·rw[hn];refine lg ?_ ?_ rfl (by rfl)
    all_goals repeat'(first|exact tt0|refine⟨⟨_,rfl,?_⟩,?_⟩|exact .c .d|exact .c (.ptr rfl)|exact .Bh rfl rfl|fail)
   repeat'(first|refine sR ?_|refine Aj rfl (by first|exact tt0|omega) ?_|(refine gV ?_;first|refine Ba (gk rfl) rfl ⟨_,rfl⟩ rfl (by exact wrap_i64 (by omega)) rfl ?_)|refine sq 7 rfl ?_|fail)
   refine VC.le (σ':=AS [(1,AD (lds loads)),(2,AD (sis sil)),(5,.c (.ptr 5 0)),(10,AB false),(11,AI n),(12,AI k)] [(5,.box m.cs)]) ?_ ?_
   ·rw[hk];refine lg ?_ ?_ rfl (by rfl)
    all_goals repeat'(first|exact tt0|refine⟨⟨_,rfl,?_⟩,?_⟩|exact .c .d|exact .c (.ptr rfl)|exact .Bh rfl rfl|fail)
   repeat'(first|refine sR ?_|refine Aj rfl (by exact tt0) ?_|(refine gC ?_;first|refine Aa (c1) (gk rfl) rfl rfl rfl (by rfl) rfl (by rfl) rfl ?_)|refine sq 8 rfl ?_|fail)
   refine VC.le (σ':=AS [(1,AD (lds loads)),(2,AD (sis sil)),(5,.c (.ptr 5 0)),(10,AB false),(11,AI n),(12,AI k),(13,.c (.ptr 13 0)),(14,AI 0)] [(5,.box m.cs),(13,.box N.cs)]) ?_ ?_
   ·refine lg ?_ ?_ rfl (by rfl)
    all_goals repeat'(first|exact tt0|refine⟨⟨_,rfl,?_⟩,?_⟩|exact .c .d|exact .c (.ptr rfl)|exact .Bh rfl rfl|fail)
   repeat'(first|refine sR ?_|refine Aj rfl (by exact tt0) ?_|(refine gC ?_;first|refine Aa (c2) (gk rfl) rfl rfl rfl (by rfl) rfl (by rfl) rfl ?_)|refine sq 9 rfl ?_|fail)
   refine VC.le (σ':=AS [(1,AD (lds loads)),(2,AD (sis sil)),(5,.c (.ptr 5 0)),(10,AB false),(11,AI n),(12,AI k),(13,.c (.ptr 13 0)),(14,AI 0),(15,.c (.ptr 15 0)),(16,AI 0)] [(5,.box m.cs),(13,.box N.cs),(15,.box H.cs)]) ?_ ?_
   ·refine lg ?_ ?_ rfl (by rfl)
    all_goals repeat'(first|exact tt0|refine⟨⟨_,rfl,?_⟩,?_⟩|exact .c .d|exact .c (.ptr rfl)|exact .Bh rfl rfl|fail)
   repeat'(first|refine sR ?_|refine Aj rfl (by first|exact tt0|omega) ?_|(refine gC ?_;first|refine Aa (c3) (gk rfl) rfl rfl rfl (by rfl) rfl (by rfl) rfl ?_)|refine sq 10 rfl ?_|fail)
   refine VC.le (σ':=AS [(1,AD (lds loads)),(2,AD (sis sil)),(5,.c (.ptr 5 0)),(10,AB false),(12,AI k),(13,.c (.ptr 13 0)),(14,AI 0),(15,.c (.ptr 15 0)),(16,AI 0),(17,.c (.ptr 17 0)),(18,AI 0)] [(5,.box m.cs),(13,.box N.cs),(15,.box H.cs),(17,.box N.cs)]) ?_ ?_
   ·refine lg ?_ ?_ rfl (by rfl)
    all_goals repeat'(first|exact tt0|refine⟨⟨_,rfl,?_⟩,?_⟩|exact .c .d|exact .c (.ptr rfl)|exact .Bh rfl rfl|fail)
   have d3:decide (H.slot≠m.slot+k)=false:=Aee (fun hn=>hn (by omega));by_cases hk1:k=0
   ·have d4:decide (k=0)=true:=Aed hk1;have hH:=h0 hk1;subst hH
    repeat'(first|refine sB ?_|refine Aj rfl (by first|exact tt0|omega) ?_|(refine gC ?_;first|refine Aa (Gz N) (gk rfl) rfl rfl rfl (by rfl) rfl (by rfl) rfl ?_|refine Aa (Gz H) (gk rfl) rfl rfl rfl (by rfl) rfl (by rfl) rfl ?_)|(refine gD ?_;first|refine Ah rfl ?_|refine Ag rfl ?_|refine At rfl (by assumption) ?_)|fail)
    all_goals exact As Ab rfl rfl
   ·have d4:decide (k=0)=false:=Aee hk1;have c5:=Sf m loads sil;rw[Wf h2 (by omega) (by omega) (by omega)] at c5;have c6:=Je (loads:=loads) (sil:=sil) (j:=1) h2 (by omega) (by omega) (by omega) (by omega);rw[e1] at c6;generalize GX m loads sil=S at c5 c6
    repeat'(first|refine sR ?_|refine Aj rfl (by first|exact tt0|omega) ?_|(refine gC ?_;first|refine Aa (Gz N) (gk rfl) rfl rfl rfl (by rfl) rfl (by rfl) rfl ?_|refine Aa (c5) (gk rfl) rfl rfl rfl (by rfl) rfl (by rfl) rfl ?_)|refine sq 15 rfl ?_|(refine gD ?_;first|refine Ag rfl ?_|refine At rfl (by assumption) ?_)|fail)
    refine VC.le (σ':=AS [(1,AD (lds loads)),(2,AD (sis sil)),(5,.c (.ptr 5 0)),(10,AB false),(19,.c (.ptr 19 0)),(20,AI 0)] [(5,.box m.cs),(19,.box S.cs)]) ?_ ?_
    ·refine lg ?_ ?_ rfl (by rfl)
     all_goals repeat'(first|exact tt0|refine⟨⟨_,rfl,?_⟩,?_⟩|exact .c .d|exact .c (.ptr rfl)|exact .Bh rfl rfl|fail)
    repeat'(first|refine sR ?_|refine Aj rfl (by exact tt0) ?_|(refine gC ?_;first|refine Aa (c6) (gk rfl) rfl rfl rfl (by rfl) rfl (by rfl) rfl ?_)|refine sq 16 rfl ?_|fail)
    refine VC.le (σ':=AS [(1,AD (lds loads)),(2,AD (sis sil)),(5,.c (.ptr 5 0)),(10,AB false),(19,.c (.ptr 19 0)),(20,AI 0),(21,.c (.ptr 21 0)),(22,AI 0)] [(5,.box m.cs),(19,.box S.cs),(21,.box S.cs)]) ?_ ?_
    ·refine lg ?_ ?_ rfl (by rfl)
     all_goals repeat'(first|exact tt0|refine⟨⟨_,rfl,?_⟩,?_⟩|exact .c .d|exact .c (.ptr rfl)|exact .Bh rfl rfl|fail)
    repeat'(first|refine sB ?_|refine Aj rfl (by exact tt0) ?_|(refine gC ?_;first|refine Aa (Gz S) (gk rfl) rfl rfl rfl (by rfl) rfl (by rfl) rfl ?_)|fail)
    all_goals exact As Ab rfl rfl
  ·have d2:decide (Cj m≠0)=true:=Aed h2
   repeat'(first|refine sB ?_|refine Aj rfl (by exact tt0) ?_|(refine gC ?_;first|refine Aa (hf) (gk rfl) rfl rfl rfl (by rfl) rfl (by rfl) rfl ?_|refine Aa (hck) (gk rfl) rfl rfl rfl (by rfl) rfl (by rfl) rfl ?_)|refine Az rfl (by assumption) ?_|(refine Ax rfl ?_ ?_<;>intro h<;>have hq:=h<;>(try simp only[hqs] at hq))|(refine gD ?_;first|refine Ah rfl ?_)|fail)
   all_goals exact As Ab rfl rfl
end Go.Proofs.M
end
