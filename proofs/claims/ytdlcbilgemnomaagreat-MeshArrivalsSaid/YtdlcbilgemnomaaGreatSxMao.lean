/-
  What functions of the program hand back, and plain laws on that. No condition.
-/
import Derived.Test.YtdlcbilgemnomaaGreatSxMam
import Derived.Test.YtdlcbilgemnomaaGreatSxMan
set_option linter.unusedSimpArgs false
set_option linter.unusedVariables false
section
namespace Go.Proofs.M
open Go Go.Sx Go.Proofs Go.Proofs.T Go.Proofs.Q
open Go.Proofs.R (NL)
set_option maxRecDepth 4000
attribute [local irreducible] VR VC thenQ blockQ retL
abbrev predφTb (p:Tb->Bool):List DV->DV->Prop:=fun ds r=>∃x:Tb,ds=[.agg (Tb.enc x)]/\r=.d (.bool (p x))
theorem idxf_Tb (l:List Tb) (p:Tb->Bool):FnS Tryz.prog 57 [AD (tbs l),.clo (predφTb p)] [] (AI (oI (Fs l p))) []:=by
 refine fb Tryz.func57 (by kernel_rfl) rfl Tryz.ntmps57 Tryz.results57 rfl rfl rfl rfl fun E hS=>?_
 refine B9 (t:=0) rfl fun hb=>?_
 repeat'(first|refine sC ?_|refine Ak rfl (by exact tt0) ?_|fail)
 refine AK (ι:=Nat) (fun k=>AS [(0,AD (tbs l)),(1,.clo (predφTb p)),(7,AI l.length),(8,AI k)] []) (fun k=>k<=l.length/\∀i,i<k->p (l.getD i default)=false) (fun k=>l.length-k) 0 ⟨Ag1 _,fun i hi=>absurd hi (AgW _)⟩ ?_ ?_
 ·exact Ck ⟨rfl,rfl,rfl,rfl,trivial⟩ trivial rfl
 ·intro k hk
  repeat'(first|refine sC ?_|refine Ak rfl (by first|exact tt0|omega) ?_|(refine gC ?_;first|refine E2 (⟨_,rfl,rfl⟩) (gk rfl) rfl rfl rfl rfl ?_)|(refine gI ?_;first|refine Au (gk rfl) rfl rfl rfl rfl rfl (by omega) rfl ?_)|(refine gD ?_;first|(refine Ay rfl ?_ ?_<;>intro h<;>have hq:=h<;>(try simp only[hqs] at hq)))|fail)
  ·refine AG Ab rfl ?_;rw[Ey hk.2 (by omega) h];rfl
  ·refine⟨k+1,⟨by omega,fun i hi=>?_⟩,by omega,Ck ⟨rfl,rfl,rfl,rfl,trivial⟩ trivial rfl⟩;by_cases hik:i<k
   ·exact hk.2 i hik
   ·have:i=k:=by omega
    subst this;exact h
  ·refine AG Ab rfl ?_;have:k=l.length:=by omega
   subst this;rw[DR hk.2];rfl
theorem containsf_Tb (l:List Tb) (p:Tb->Bool):FnS Tryz.prog 25 [AD (tbs l),.clo (predφTb p)] [] (AB (l.any p)) []:=by
 refine fb Tryz.func25 (by kernel_rfl) rfl Tryz.ntmps25 Tryz.results25 rfl rfl rfl rfl fun E hS=>?_
 repeat'(first|refine sB ?_|refine Ak rfl (by exact tt0) ?_|(refine gC ?_;first|refine AF [] (idxf_Tb l p) (gk rfl) rfl (by(repeat'(first|exact .nil|refine .cons ?_ ?_|exact .of0 (.c .d)|exact .clo))<;>fail) (by rfl) rfl (by rfl) rfl (by rfl) rfl ?_)|fail)
 all_goals exact Aw Ab rfl (E9 _ _).symm
def bigT (t:Tb):Bool:=!AfA t
theorem nc1_spec (x:Tb):FnS Tryz.prog 36 [tbA x] [] (AB (bigT x)) []:=by
 have h:=Adp x;refine fb Tryz.func36 (by kernel_rfl) rfl Tryz.ntmps36 Tryz.results36 rfl rfl rfl rfl fun E hS=>?_
 repeat'(first|refine sB ?_|refine Ak rfl (by exact tt0) ?_|(refine gC ?_;first|refine Aa (h) (gk rfl) rfl rfl rfl (by rfl) rfl (by rfl) rfl ?_)|fail)
 all_goals exact Aw Ab rfl rfl
theorem nc1_fnc {σ:St} {L:List Nat}:AR Tryz.prog σ L (.fnc 36 []) (.clo (predφTb bigT)):=
 .fnc (eps:=[]) .nil (enters_of Tryz.func36 (by kernel_rfl) rfl) (by rintro _ _ ⟨x,rfl,rfl⟩;exact⟨rfl,nc1_spec x⟩)
theorem ma1_spec (x:Tb):FnS Tryz.prog 26 [tbA x] [] (AB (bigT x)) []:=by
 have h:=Adp x;refine fb Tryz.func26 (by kernel_rfl) rfl Tryz.ntmps26 Tryz.results26 rfl rfl rfl rfl fun E hS=>?_
 repeat'(first|refine sB ?_|refine Ak rfl (by exact tt0) ?_|(refine gC ?_;first|refine Aa (h) (gk rfl) rfl rfl rfl (by rfl) rfl (by rfl) rfl ?_)|fail)
 all_goals exact Aw Ab rfl rfl
theorem ma1_fnc {σ:St} {L:List Nat}:AR Tryz.prog σ L (.fnc 26 []) (.clo (predφTb bigT)):=
 .fnc (eps:=[]) .nil (enters_of Tryz.func26 (by kernel_rfl) rfl) (by rintro _ _ ⟨x,rfl,rfl⟩;exact⟨rfl,ma1_spec x⟩)
theorem new_ok {ts:List Tb} {turns:Int} (h:(CM ts turns).2=0):FnS Tryz.prog 13 [AD (tbs ts),AI turns] [] (.tup [meA (CM ts turns).1,AI 0]) []:=by
 have:=Og ts turns
 rwa [h] at this
theorem new_bad (ts:List Tb) (turns:Int) (h:(CM ts turns).2≠0):∃m e,e≠0/\FnS Tryz.prog 13 [AD (tbs ts),AI turns] [] (.tup [meA m,AI e]) []:=⟨_,_,h,Og ts turns⟩
set_option maxHeartbeats 8000000 in
theorem lawNoCycle_spec (ts:List Tb) (turns:Int) (loads:List Ld) (sil:List Si) (CE:Int) (ht:0<=turns/\turns<=255) (hs:0<=CE/\CE<=255):
  FnS Tryz.prog 8 [AD (tbs ts),AD (.int .u8 turns),AD (lds loads),AD (sis sil),AD (.int .u8 CE)] [] (AB true) []:=by
 have hf:=Adq loads sil;refine fb Tryz.func8 (by kernel_rfl) rfl Tryz.ntmps8 Tryz.results8 rfl rfl rfl rfl fun E hS=>?_
 repeat'(first|refine sR ?_|refine Ak rfl (by exact tt0) ?_|(refine gC ?_;first|refine Aa (T0) (gk rfl) rfl rfl rfl (by rfl) rfl (by rfl) rfl ?_)|refine sq 3 rfl ?_|(refine gD ?_;first|refine Ah rfl ?_)|fail)
 by_cases h6:6<ts.length
 ·have d6:decide (6<(ts.length:Int))=true:=Agj (by omega)
  repeat'(first|refine sB ?_|refine Ak rfl (by exact tt0) ?_|refine Az rfl (by assumption) ?_|(refine gD ?_;first|refine Ai rfl ?_)|fail)
  all_goals exact Aw Ab rfl rfl
 have d6:decide (6<(ts.length:Int))=false:=Agk (by omega);cases h1:AfB loads sil with
 |false=>
  have d1:(!AfB loads sil)=true:=by rw[h1];rfl
  repeat'(first|refine sB ?_|refine Ak rfl (by exact tt0) ?_|(refine gC ?_;first|refine Aa (hf) (gk rfl) rfl rfl rfl (by rfl) rfl (by rfl) rfl ?_)|refine Az rfl (by assumption) ?_|(refine gD ?_;first|refine Ai rfl ?_)|fail)
  all_goals exact Aw Ab rfl rfl
 |true=>
  have d1:(!AfB loads sil)=false:=by rw[h1];rfl
  cases h2:ts.any bigT with
  |true=>
   repeat'(first|refine sB ?_|refine Ak rfl (by exact tt0) ?_|(refine gC ?_;first|refine Aa (hf) (gk rfl) rfl rfl rfl (by rfl) rfl (by rfl) rfl ?_|refine AF [] (containsf_Tb ts bigT) (gk rfl) rfl (by(repeat'(first|exact .nil|refine .cons ?_ ?_|exact .of0 (.c .d)|exact(nc1_fnc)))<;>fail) (by rfl) rfl (by rfl) rfl (by rfl) rfl ?_)|refine Az rfl (by assumption) ?_|(refine gD ?_;first|refine Ai rfl ?_|refine At rfl (by assumption) ?_)|fail)
   all_goals exact Aw Ab rfl rfl
  |false=>
   repeat'(first|refine sR ?_|refine Ak rfl (by exact tt0) ?_|(refine gC ?_;first|refine Aa (hf) (gk rfl) rfl rfl rfl (by rfl) rfl (by rfl) rfl ?_|refine AF [] (containsf_Tb ts bigT) (gk rfl) rfl (by(repeat'(first|exact .nil|refine .cons ?_ ?_|exact .of0 (.c .d)|exact(nc1_fnc)))<;>fail) (by rfl) rfl (by rfl) rfl (by rfl) rfl ?_)|refine Az rfl (by assumption) ?_|refine sq 5 rfl ?_|(refine gD ?_;first|refine Ah rfl ?_|refine At rfl (by assumption) ?_)|fail)
   obtain⟨q,eq0⟩:∃q,q=1+turns % 8:=⟨_,rfl⟩;by_cases h3:(CM ts q).2=0
   ·have hN:=new_ok h3;obtain⟨n1,n2,n3,n4,n5⟩:=JE h3;have n6:=Afx h3;generalize (CM ts q).1=m at *;rw[eq0] at hN
    repeat'(first|refine sR ?_|refine Ak rfl (by first|exact tt0|omega) ?_|(refine gC ?_;first|refine Aa (hN) (gk rfl) rfl rfl rfl (by rfl) rfl (by rfl) rfl ?_)|(refine gV ?_;first|refine A4 (gk rfl) rfl ⟨_,rfl⟩ rfl (by exact wrap_i64 (by omega)) rfl ?_)|refine sq 6 rfl ?_|fail)
    obtain⟨n,hn⟩:∃n,n=CE % 81:=⟨_,rfl⟩;have hn0:0<=n/\n<=80:=by omega
    refine VC.le (σ':=AS [(0,AD (tbs ts)),(2,AD (lds loads)),(3,AD (sis sil)),(4,AD (.int .u8 CE)),(10,AB false),(11,.c (.ptr 11 0)),(12,AI 0)] [(11,.box m.cs)]) ?_ ?_
    ·refine lg ?_ ?_ rfl (by rfl)
     all_goals repeat'(first|exact tt0|refine⟨⟨_,rfl,?_⟩,?_⟩|exact .c .d|exact .c (.ptr rfl)|exact .Bs rfl rfl|fail)
    repeat'(first|refine sC ?_|refine Ak rfl (by first|exact tt0|omega) ?_|(refine gV ?_;first|refine A4 (gk rfl) rfl ⟨_,rfl⟩ rfl (by exact wrap_i64 (by omega)) rfl ?_)|(refine gD ?_;first|refine Ah rfl ?_)|fail)
    refine AK (ι:=Nat) (fun k=>AS [(0,AD (tbs ts)),(2,AD (lds loads)),(3,AD (sis sil)),(10,AB false),(11,.c (.ptr 11 0)),(46,AI n),(47,AI k)] [(11,.box (runN loads sil k m).cs)])
     (fun k=>(k:Int)<=n/\NL ((runN loads sil k m).nodes.map pi) [] (runN loads sil k m).slot) (fun k=>n.toNat-k) 0 ⟨by show(0:Int)<=n;omega,n6⟩ ?_ ?_
    ·rw[hn];refine lg ?_ ?_ rfl (by rfl)
     all_goals repeat'(first|exact tt0|refine⟨⟨_,rfl,?_⟩,?_⟩|exact .c .d|exact .c (.ptr rfl)|exact .Bs rfl rfl|fail)
    ·rintro k ⟨hk,hnl⟩;obtain⟨c1,c2,c3,_⟩:=Ed (loads:=loads) (sil:=sil) n1 k (by omega);have hst:=AbD (runN loads sil k m) loads sil;have ek:runN loads sil (k+1) m=Cz (runN loads sil k m) loads sil:=rfl;by_cases hc:(k:Int)<n
     ·have hd:decide ((k:Int)<n)=true:=Agj hc;by_cases hl:loads.length<=1024/\sil.length<=1024
      ·obtain⟨s1,s2,s3,s4,s5,s6⟩:=AeM (loads:=loads) (sil:=sil) c1 hnl (by omega);rw[AdX c1 hl.1 hl.2 (by omega)] at hst;have hpa:=I4 (Cz (runN loads sil k m) loads sil);have hck:=BM (Cz (runN loads sil k m) loads sil);rw[s1] at hck;have e7:(runN loads sil k m).nodes.length=ts.length:=c3.trans n3;rw[e7] at s3 s6;rw[<-ek] at hst s1 s2 s3 s4 s5 s6 hpa hck;clear ek;obtain⟨M2,hM2⟩:∃x,x=runN loads sil (k+1) m:=⟨_,rfl⟩;rw[<-hM2] at hst s1 s2 s3 s4 s5 s6 hpa hck;generalize runN loads sil k m=M1 at *;generalize D7 M2=p at *;have dl:decide ((p.length:Int)≠(ts.length:Int))=false:=Agk (fun hne=>hne (by omega));have ds:decide (M2.slot≠M1.slot+1)=false:=Agk (fun hne=>hne s2)
       repeat'(first|refine sR ?_|refine Ak rfl (by exact tt0) ?_|(refine gC ?_;first|refine Aa (hst) (gk rfl) rfl rfl rfl (by rfl) rfl (by rfl) rfl ?_)|refine sq 11 rfl ?_|(refine gD ?_;first|refine Ai rfl ?_|refine At rfl (by assumption) ?_)|refine B0 ?_|fail)
       refine VC.le (σ':=AS [(0,AD (tbs ts)),(2,AD (lds loads)),(3,AD (sis sil)),(10,AB false),(11,.c (.ptr 11 0)),(13,.c (.ptr 13 0)),(14,AI 0),(46,AI n),(47,AI k)] [(11,.box M1.cs),(13,.box M2.cs)]) ?_ ?_
       ·refine lg ?_ ?_ rfl (by rfl)
        all_goals repeat'(first|exact tt0|refine⟨⟨_,rfl,?_⟩,?_⟩|exact .c .d|exact .c (.ptr rfl)|exact .Bs rfl rfl|fail)
       repeat'(first|refine sC ?_|refine Ak rfl (by first|exact tt0|omega) ?_|(refine gC ?_;first|refine Aa (hpa) (gk rfl) rfl rfl rfl (by rfl) rfl (by rfl) rfl ?_|refine Aa (hck) (gk rfl) rfl rfl rfl (by rfl) rfl (by rfl) rfl ?_)|refine Az rfl (by assumption) ?_|(refine gD ?_;first|refine Ah rfl ?_)|fail)
       refine AK (ι:=Nat) (fun i=>AS [(0,AD (tbs ts)),(2,AD (lds loads)),(3,AD (sis sil)),(10,AB false),(11,.c (.ptr 11 0)),(13,.c (.ptr 13 0)),(15,AD (ints p)),(46,AI n),(47,AI k),(91,AI p.length),(92,AI i)] [(11,.box M1.cs),(13,.box M2.cs)])
        (fun i=>i<=p.length) (fun i=>p.length-i) 0 (Ag1 _) ?_ ?_
       ·refine lg ?_ ?_ rfl (by rfl)
        all_goals repeat'(first|exact tt0|refine⟨⟨_,rfl,?_⟩,?_⟩|exact .c .d|exact .c (.ptr rfl)|exact .Bs rfl rfl|fail)
       ·intro i hi;by_cases hci:i<p.length
        ·have hdi:decide ((i:Int)<(p.length:Int))=true:=Agj (by omega)
         repeat'(first|refine sC ?_|refine Ak rfl (by exact tt0) ?_|(refine gD ?_;first|refine Ai rfl ?_|refine At rfl (by assumption) ?_)|fail)
         refine AK (ι:=Nat) (fun j=>AS [(0,AD (tbs ts)),(2,AD (lds loads)),(3,AD (sis sil)),(10,AB false),(11,.c (.ptr 11 0)),(13,.c (.ptr 13 0)),(15,AD (ints p)),(17,AI (upP p j i)),(46,AI n),(47,AI k),(91,AI p.length),(92,AI i),(97,AI p.length),(98,AI j)] [(11,.box M1.cs),(13,.box M2.cs)])
          (fun j=>j<=p.length) (fun j=>p.length-j) 0 (Ag1 _) ?_ ?_
         ·refine lg ?_ ?_ rfl (by rfl)
          all_goals repeat'(first|exact tt0|refine⟨⟨_,rfl,?_⟩,?_⟩|exact .c .d|exact .c (.ptr rfl)|exact .Bs rfl rfl|fail)
         ·intro j hj;have eu:upP p (j+1) i=if 0<=upP p j i/\upP p j i<p.length then p.getD (upP p j i).toNat default else upP p j i:=rfl
          by_cases hcj:j<p.length
          ·have hdj:decide ((j:Int)<(p.length:Int))=true:=Agj (by omega);generalize upP p j i=a at *;by_cases ha:0<=a
           ·have da:decide (0<=a)=true:=Agj ha;by_cases ha2:a<p.length
            ·have da2:decide (a<(p.length:Int))=true:=Agj ha2;rw[AgZ ⟨ha,ha2⟩] at eu
             repeat'(first|refine sC ?_|refine Ak rfl (by first|exact tt0|omega) ?_|(refine gI ?_;first|refine DA (gk rfl) rfl rfl rfl rfl (by omega) rfl ?_)|refine Az rfl (by assumption) ?_|(refine gD ?_;first|refine Ai rfl ?_|refine At rfl (by assumption) ?_)|fail)
             refine⟨j+1,by omega,by omega,?_⟩;rw[eu];refine lg ?_ ?_ rfl (by rfl)
             all_goals repeat'(first|exact tt0|refine⟨⟨_,rfl,?_⟩,?_⟩|exact .c .d|exact .c (.ptr rfl)|exact .Bs rfl rfl|fail)
            ·have da2:decide (a<(p.length:Int))=false:=Agk ha2;rw[AgY (fun h=>ha2 h.2)] at eu
             repeat'(first|refine sC ?_|refine Ak rfl (by first|exact tt0|omega) ?_|refine Az rfl (by assumption) ?_|(refine gD ?_;first|refine Ai rfl ?_|refine Ah rfl ?_|refine At rfl (by assumption) ?_)|fail)
             refine⟨j+1,by omega,by omega,?_⟩;rw[eu];refine lg ?_ ?_ rfl (by rfl)
             all_goals repeat'(first|exact tt0|refine⟨⟨_,rfl,?_⟩,?_⟩|exact .c .d|exact .c (.ptr rfl)|exact .Bs rfl rfl|fail)
           ·have da:decide (0<=a)=false:=Agk ha;rw[AgY (fun h=>ha h.1)] at eu
            repeat'(first|refine sC ?_|refine Ak rfl (by first|exact tt0|omega) ?_|refine Az rfl (by assumption) ?_|(refine gD ?_;first|refine Ai rfl ?_|refine Ah rfl ?_|refine At rfl (by assumption) ?_)|fail)
            refine⟨j+1,by omega,by omega,?_⟩;rw[eu];refine lg ?_ ?_ rfl (by rfl)
            all_goals repeat'(first|exact tt0|refine⟨⟨_,rfl,?_⟩,?_⟩|exact .c .d|exact .c (.ptr rfl)|exact .Bs rfl rfl|fail)
          ·have hdj:decide ((j:Int)<(p.length:Int))=false:=Agk (by omega);have e8:upP p j i=-1:=by
            rw[show j=ts.length by omega];exact s6 i (by omega)
           rw[e8]
           repeat'(first|refine sB ?_|refine Ak rfl (by first|exact tt0|omega) ?_|(refine gD ?_;first|refine Ah rfl ?_|refine At rfl (by assumption) ?_)|fail)
           refine⟨i+1,by omega,by omega,?_⟩;refine lg ?_ ?_ rfl (by rfl)
           all_goals repeat'(first|exact tt0|refine⟨⟨_,rfl,?_⟩,?_⟩|exact .c .d|exact .c (.ptr rfl)|exact .Bs rfl rfl|fail)
        ·have hdi:decide ((i:Int)<(p.length:Int))=false:=Agk (by omega)
         repeat'(first|refine sB ?_|refine Ak rfl (by first|exact tt0|omega) ?_|(refine gD ?_;first|refine Ah rfl ?_|refine At rfl (by assumption) ?_)|fail)
         refine⟨k+1,⟨by omega,by rw[<-hM2];exact s5⟩,by omega,?_⟩;rw[<-hM2];refine lg ?_ ?_ rfl (by rfl)
         all_goals repeat'(first|exact tt0|refine⟨⟨_,rfl,?_⟩,?_⟩|exact .c .d|exact .c (.ptr rfl)|exact .Bs rfl rfl|fail)
      ·have e9:Da (runN loads sil k m) loads sil=8:=by
        unfold Da;rw[AgY (fun hn=>hn c1),AgZ (by omega)]
       have e10:SO (runN loads sil k m) loads sil=(noM,8):=by
        unfold SO;rw[e9];rfl
       rw[e10] at hst;generalize runN loads sil k m=M1 at *;by_cases hl1:1024<loads.length
       ·have dl1:decide (1024<(loads.length:Int))=true:=Agj (by omega)
        repeat'(first|refine sC ?_|refine Ak rfl (by exact tt0) ?_|(refine gC ?_;first|refine Aa (hst) (gk rfl) rfl rfl rfl (by rfl) rfl (by rfl) rfl ?_)|refine Az rfl (by assumption) ?_|(refine gD ?_;first|refine Ai rfl ?_|refine At rfl (by assumption) ?_)|fail)
        all_goals exact Aw Ab rfl rfl
       ·have dl1:decide (1024<(loads.length:Int))=false:=Agk (by omega);have dl2:decide (1024<(sil.length:Int))=true:=Agj (by omega)
        repeat'(first|refine sC ?_|refine Ak rfl (by exact tt0) ?_|(refine gC ?_;first|refine Aa (hst) (gk rfl) rfl rfl rfl (by rfl) rfl (by rfl) rfl ?_)|refine Az rfl (by assumption) ?_|(refine gD ?_;first|refine Ai rfl ?_|refine At rfl (by assumption) ?_)|fail)
        all_goals exact Aw Ab rfl dl2.symm
     ·have hd:decide ((k:Int)<n)=false:=Agk hc
      repeat'(first|refine sB ?_|refine Ak rfl (by exact tt0) ?_|(refine gD ?_;first|refine Ah rfl ?_|refine At rfl (by assumption) ?_)|fail)
      all_goals exact Aw Ab rfl rfl
   ·obtain⟨m,e,he,hN⟩:=new_bad ts q h3;rw[eq0] at hN;have de:decide (e≠0)=true:=Agj he
    repeat'(first|refine sB ?_|refine Ak rfl (by first|exact tt0|omega) ?_|(refine gC ?_;first|refine Aa (hN) (gk rfl) rfl rfl rfl (by rfl) rfl (by rfl) rfl ?_)|(refine gV ?_;first|refine A4 (gk rfl) rfl ⟨_,rfl⟩ rfl (by exact wrap_i64 (by omega)) rfl ?_)|(refine gD ?_;first|refine Ai rfl ?_|refine At rfl (by assumption) ?_)|fail)
    all_goals exact Aw Ab rfl rfl
end Go.Proofs.M
end
