/-
  Functions' results, and laws on them. No condition.
-/
import Derived.Test.YtdlcbilgemnomaaGreatSxMay
set_option linter.unusedSimpArgs false
set_option linter.unusedVariables false
set_option maxRecDepth 4000
set_option maxHeartbeats 16000000
open Go.Proofs.Tryz
namespace Go.Proofs
open Go Go.Sx Go.Proofs.T Go.Proofs.Q
attribute [local irreducible] VR VC thenQ blockQ retL
theorem Wq (t:Tb) (Be Cq:Int):Ak 42 [tbA t,AI Be,AI Cq] (.tup [stA (IG t Be Cq).1,AI (IG t Be Cq).2]):=by
 have hck:=Fo t;refine Ao func42 ntmps42 results42 fun E hS=>?_
 refine AG ?_
 repeat'(first|refine Ad ?_|refine Aa (hck) ?_|(refine Av ?_ ?_<;>intro h hq)|fail)
 ·have e:IG t Be Cq=(noS,1):=by rw[IG,Akc hq]
  rw[e];exact Ag (Al (l:=[(6,.c (.ptr 6 0)),(7,AI 1)]) (b:=[(6,.box noS.cs)])) Aj
 ·have e:IG t Be Cq=(noS,2):=by rw[IG,Akb (by omega),Akc (by omega)]
  rw[e];exact Ag (Al (l:=[(6,.c (.ptr 6 0)),(7,AI 2)]) (b:=[(6,.box noS.cs)])) Aj
 ·have e:IG t Be Cq=(noS,2):=by rw[IG,Akb (by omega),Akc (by omega)]
  rw[e];exact Ag (Al (l:=[(6,.c (.ptr 6 0)),(7,AI 2)]) (b:=[(6,.box noS.cs)])) Aj
 ·have e:IG t Be Cq=(noS,2):=by rw[IG,Akb (by omega),Akc (by omega)]
  rw[e];exact Ag (Al (l:=[(6,.c (.ptr 6 0)),(7,AI 2)]) (b:=[(6,.box noS.cs)])) Aj
 ·have e:IG t Be Cq=(noS,2):=by rw[IG,Akb (by omega),Akc (by omega)]
  rw[e];exact Ag (Al (l:=[(6,.c (.ptr 6 0)),(7,AI 2)]) (b:=[(6,.box noS.cs)])) Aj
 ·have e:IG t Be Cq=(⟨t,⟨Be,[]⟩,[],[],0,0,-1,0,0,0,Cq⟩,0):=by rw[IG,Akb (by omega),Akb (by omega)]
  rw[e];exact Ag (Al (l:=[(6,.c (.ptr 6 0)),(7,AI 0)]) (b:=[(6,.box (Sta.cs ⟨t,⟨Be,[]⟩,[],[],0,0,-1,0,0,0,Cq⟩))])) Aj
end Go.Proofs
namespace Go.Proofs.R
open Go Go.Sx Go.Proofs.P
attribute [local irreducible] VR VC thenQ blockQ retL
theorem S8 (i:Int):Ak 43 [AI i] (.tup [rkA (startM i).1,AI (startM i).2]):=by
 have hn:=P.GW i;unfold startM;cases hb:Dn i with
 |false=>
  rw[hb] at hn;refine Ao func43 ntmps43 results43 fun E hS=>?_
  repeat'(first|refine Ad ?_|refine Aa (hn) ?_|fail)
  all_goals first|exact CO Ae rfl rfl rfl rfl rfl rfl rfl
 |true=>
  rw[hb] at hn;rw[Akb (by simp)];by_cases h0:i=0
  ·subst h0;refine Ao func43 ntmps43 results43 fun E hS=>?_
   repeat'(first|refine Ad ?_|refine Aa (hn) ?_|fail)
   exact CO Ae rfl rfl rfl rfl rfl rfl rfl
  ·rw[Akb h0];have d1:=Ajv h0;refine Ao func43 ntmps43 results43 fun E hS=>?_
   repeat'(first|refine Ad ?_|refine Aa (hn) ?_|fail)
   exact CO Ae rfl rfl rfl rfl rfl rfl rfl
end Go.Proofs.R
namespace Go.Proofs.M
open Go Go.Sx Go.Proofs Go.Proofs.T Go.Proofs.Q
open Go.Proofs.P (Nb nbs Rk rkA rkErr checkNb hearM countM forgetM select')
open Go.Proofs.R (startM advM)
attribute [local irreducible] VR VC thenQ blockQ retL
theorem O0 (m:Me):Ak 19 [meA m] (AD (ints (Fq m))):=by
 have hck:=EV m;refine Ao func19 ntmps19 results19 fun E hS=>?_
 refine AG ?_;by_cases h:B6 m=0
 ·have d1:decide (B6 m≠0)=false:=Ajv (fun hn=>hn h);obtain⟨hh,_⟩:=DG.1 h;have hn2:=hh.n2;have e:Fq m=paK m m.nodes.length:=by
   unfold Fq paK;rw[Akb (fun hn=>hn h),AkB]
  rw[e]
  repeat'(first|refine Af ?_|refine Aa (hck) ?_|fail)
  refine VC.le (le_nil (t:=3) (nm:=103) (T:=3) (sz:=1) rfl rfl) ?_;refine Er m.nodes.length (fun k=>AN [(1,.c (.ptr 1 0)),(3,.c (.row 103 (paK m k).length)),(4,AI k)] [(1,.box m.cs),(103,.row 3 1 (rowOf FT.enc (paK m k)))]) ?_ ?_
  ·exact Al
  ·intro k hk;have hl:=YG hk;by_cases hc:k<m.nodes.length
   ·have hd:=Cz k m.nodes.length;have hs:=U3 hc
    repeat'(first|refine Af ?_|refine Ap ?_|fail)
    refine BU (k+1) ?_;rw[hs,Ajy];exact BF (fun n=>if n=103 then 24 else n)
   ·have hd:=CM k m.nodes.length;have hkl:k=m.nodes.length:=by omega
    subst hkl
    repeat'(first|refine Ad ?_|fail)
    exact Ag (Cu (l:=[(2,AD (ints (paK m m.nodes.length)))]) (b:=[]) (fun n=>n) [103] hS) CV
 ·have d1:decide (B6 m≠0)=true:=Aju h;have e:Fq m=[]:=Akc h;rw[e]
  repeat'(first|refine Ad ?_|refine Aa (hck) ?_|fail)
  exact Ag (Al (l:=[(2,AD (ints []))]) (b:=[])) CV
theorem We (ts:List Tb) (turns:Int):Ak 14 [AD (tbs ts),AI turns] (.tup [meA (E8 ts turns).1,AI (E8 ts turns).2]):=by
 refine Ao func14 ntmps14 results14 fun E hS=>?_
 refine AG ?_;refine Bz (t:=0) rfl fun hb=>?_
 repeat'(first|refine Af ?_|fail)
 refine VC.le (Gf (bx:=6) (nm:=103) (T:=45) (sz:=22) (j:=0) rfl rfl rfl) ?_;refine Ax (ι:=Nat) (fun k=>AN [(0,AD (tbs ts)),(4,.c (.ptr 4 0)),(5,AI 0),(6,.c (.ptr 6 0)),(7,AI k)] [(4,.box noM.cs),(6,.box [.row 103 (nwK ts k).length,.d (.int .i64 0),.d (.int .i64 turns),.d .Df]),(103,.row 45 22 (rowOf MN.enc (nwK ts k)))])
  (fun k=>k<=ts.length/\k<=32/\∀i,i<k->okN (ts.getD i default) i) (fun k=>ts.length-k) 0 ⟨Ake _,Ake _,fun i hi=>absurd hi (Aj9 _)⟩ ?_ ?_
 ·exact Al
 ·rintro k ⟨hk,hk32,hall⟩;have hl:=YN ts k;have d32:=Es ((k:Int)<=32);by_cases hc:k<ts.length
  ·have hd:=Cz k ts.length;have hns:=Wq (ts.getD k default) 16 k;have hss:=R.S8 (k:Int);by_cases h1:(IG (ts.getD k default) 16 k).2=0
   ·have d1:decide ((IG (ts.getD k default) 16 k).2≠0)=false:=Ajv (fun hn=>hn h1);by_cases h2:(startM k).2=0
    ·have d2:decide ((startM k).2≠0)=false:=Ajv (fun hn=>hn h2);have h31:k<32:=by
      unfold startM at h2
      split at h2
      ·cases h2
      ·rename_i hn;unfold P.Dn P.inR at hn;simp only[Ajx,AjF,Ala,not_or] at hn;omega
     repeat'(first|refine Af ?_|refine Aa (hns) ?_|refine Aa (hss) ?_|refine Ap ?_|fail)
     refine⟨k+1,⟨by omega,by omega,fun i hi=>?_⟩,by omega,?_⟩
     ·by_cases h:i<k
      ·exact hall i h
      ·have:i=k:=by omega
       subst this;exact⟨h1,h2⟩
     ·rw[U7,Ajy];refine A0 (fun n=>if n=103 then 51 else n) ?_ ?_ rfl (by(simp only[wfL,wfs,AA,Az];rfl))
      all_goals repeat'(first|exact tt0|refine⟨⟨_,rfl,?_⟩,?_⟩|exact .c .d|exact .c (.ptr rfl)|exact .FA rfl rfl|refine .box ?_|exact .nil|refine .cons ?_ ?_|exact .d|exact .row rfl rfl|fail)
      rw[AF];exact .row (Bh.append (JF Ai) (.cons (.cons .d (.cons .d (.cons .d (.cons .d (.cons .d (.cons .d (.cons .d (.cons .d (.cons .d (.cons .d (.cons .d (.cons .d (.cons .d (.cons .d (.cons .d (.cons .d (.cons .d (.cons .d (.cons .d (.cons .d (.cons .nil (.cons .d .nil)))))))))))))))))))))) .nil))
    ·have d2:decide ((startM k).2≠0)=true:=Aju h2;have e:E8 ts turns=(noM,1):=by
      unfold E8;rw[HK turns ts 0 k hc (by rw[Ak1];exact fun h=>h2 h.2)]
     rw[e]
     repeat'(first|refine Af ?_|refine Aa (hns) ?_|refine Aa (hss) ?_|fail)
     exact Ag (Al (l:=[(4,.c (.ptr 4 0)),(5,AI 1)]) (b:=[(4,.box noM.cs)])) Aj
   ·have d1:decide ((IG (ts.getD k default) 16 k).2≠0)=true:=Aju h1;have e:E8 ts turns=(noM,1):=by
     unfold E8;rw[HK turns ts 0 k hc (by rw[Ak1];exact fun h=>h1 h.1)]
    rw[e]
    repeat'(first|refine Af ?_|refine Aa (hns) ?_|refine Aa (hss) ?_|fail)
    exact Ag (Al (l:=[(4,.c (.ptr 4 0)),(5,AI 1)]) (b:=[(4,.box noM.cs)])) Aj
  ·have hd:=CM k ts.length;have hkl:k=ts.length:=by omega
   subst hkl;have e:E8 ts turns=if B6 ⟨nwK ts ts.length,0,turns,[]⟩≠0 then(noM,1) else(⟨nwK ts ts.length,0,turns,[]⟩,0):=by
    unfold E8;rw[Mt turns ts 0 (fun i hi=>by rw[Ak1];exact hall i hi)];simp only[Ak1];rfl
   rw[e];have hck:=EV ⟨nwK ts ts.length,0,turns,[]⟩
   repeat'(first|refine HX ?_|refine sq 10 rfl ?_|((fail_if_success (show VC _ (.region 10 _ _) _ _));refine ER ?_)|fail)
   refine VC.le (σ':=AN [(4,.c (.ptr 4 0)),(5,AI 0),(6,.c (.ptr 6 0))] [(4,.box noM.cs),(6,.box (Me.cs ⟨nwK ts ts.length,0,turns,[]⟩))]) ?_ ?_
   ·exact Cu (fun n=>n) [103] hS
   by_cases h3:B6 ⟨nwK ts ts.length,0,turns,[]⟩=0
   ·have d3:decide (B6 ⟨nwK ts ts.length,0,turns,[]⟩≠0)=false:=Ajv (fun hn=>hn h3);rw[Akb (fun hn=>hn h3)]
    repeat'(first|refine Ad ?_|refine Aa (hck) ?_|fail)
    exact Ag (Al (l:=[(4,.c (.ptr 4 0)),(5,AI 0)]) (b:=[(4,.box (Me.cs ⟨nwK ts ts.length,0,turns,[]⟩))])) Aj
   ·have d3:decide (B6 ⟨nwK ts ts.length,0,turns,[]⟩≠0)=true:=Aju h3;rw[Akc h3]
    repeat'(first|refine Ad ?_|refine Aa (hck) ?_|fail)
    exact Ag (Al (l:=[(4,.c (.ptr 4 0)),(5,AI 1)]) (b:=[(4,.box noM.cs)])) Aj
end Go.Proofs.M
namespace Go.Proofs.M
open Go Go.Sx Go.Proofs Go.Proofs.T Go.Proofs.Q
attribute [local irreducible] VR VC thenQ blockQ retL
def Aax (m:Me) (k:Nat):List Tb:=(m.nodes.take k).map fun x=>x.st.tb
theorem XW {m:Me} {k:Nat} (hk:k<m.nodes.length):Aax m (k+1)=Aax m k++[(m.nodes.getD k default).st.tb]:=by
 unfold Aax;rw[Ak5,Akl,Ajt,AjC hk];rfl
theorem AaV {m:Me} {k:Nat} (hk:k<=m.nodes.length):(Aax m k).length=k:=by simp[Aax,hk]
theorem AbR {m:Me} (h:T9 m=true):m.nodes.length<=34:=by
 unfold T9 at h;simp only[AjE,Bool.not_eq_true',Bool.or_eq_false_iff,Ajx] at h;omega
theorem Zs (l:List Si) (a b s:Int):∃B:Bool,Ak 21 [AD (sis l),AI a,AI b,AI s] (AB B)/\Ak 22 [AD (sis l),AI a,AI b,AI s] (AB B):=⟨_,Ir l a b s,I9 l a b s⟩
theorem Z9 (m:Me):∃c:Int,Ak 15 [meA m] (AI c)/\Ak 16 [meA m] (AI c):=⟨_,B3 m,EV m⟩
theorem Ty (m:Me):∃p:List Int,Ak 18 [meA m] (AD (ints p))/\Ak 19 [meA m] (AD (ints p)):=⟨_,KJ m,O0 m⟩
theorem Aew (ts:List Tb) (turns:Int):∃(x:Me) (e:Int),Ak 13 [AD (tbs ts),AI turns] (.tup [meA x,AI e])/\Ak 14 [AD (tbs ts),AI turns] (.tup [meA x,AI e]):=⟨_,_,Q3 ts turns,We ts turns⟩
theorem NJ (m:Me) (turns:Int) (sil:List Si) (a b s:Int):Ak 3 [meA m,AI turns,AD (sis sil),AI a,AI b,AI s] (AB true):=by
 have hf:=MU m;have hf2:=MV [] sil;refine Ao func3 ntmps3 results3 fun E hS=>?_
 repeat'(first|refine AJ ?_|refine Aa (KE) ?_|refine sq 3 rfl ?_|fail)
 cases h1:T9 m with
 |false=>
  have d1:(!T9 m)=true:=by rw[h1];rfl
  repeat'(first|refine Ad ?_|refine Aa (hf) ?_|fail)
  all_goals exact AO
 |true=>
  have d1:(!T9 m)=false:=by rw[h1];rfl
  cases h2:ZO [] sil with
  |false=>
   have d2:(!ZO [] sil)=true:=by rw[h2];rfl
   repeat'(first|refine Ad ?_|refine Aa (hf) ?_|refine AK [] (hf2) ?_|fail)
   all_goals exact AO
  |true=>
   have d2:(!ZO [] sil)=false:=by rw[h2];rfl
   have hn:=AbR h1
   repeat'(first|refine Af ?_|refine Aa (hf) ?_|refine AK [] (hf2) ?_|fail)
   refine VC.le (le_nil (t:=13) (nm:=113) (T:=33) (sz:=3) rfl rfl) ?_;refine Er m.nodes.length (fun k=>AN [(1,AI turns),(2,AD (sis sil)),(3,AI a),(4,AI b),(5,AI s),(6,.c (.ptr 6 0)),(12,AB false),(13,.c (.row 113 (Aax m k).length)),(31,AD (mns m.nodes)),(32,AI m.nodes.length),(33,AI k)] [(6,.box m.cs),(113,.row 33 3 (rowOf Tb.enc (Aax m k)))]) ?_ ?_
   ·exact Al
   ·intro k hk;have hl:=AaV hk;by_cases hc:k<m.nodes.length
    ·have hd:=Cz k m.nodes.length;have hs:=XW hc
     repeat'(first|refine Af ?_|refine Ap ?_|fail)
     refine BU (k+1) ?_;rw[hs,Ajy];exact BF (fun n=>if n=113 then 42 else n)
    ·have hd:=CM k m.nodes.length;have hkl:k=m.nodes.length:=by omega
     subst hkl;obtain⟨C,hc1,hc2⟩:=Z9 m;obtain⟨p,hp1,hp2⟩:=Ty m;obtain⟨X,E,hn1,hn2⟩:=Aew (Aax m m.nodes.length) turns;obtain⟨B,hh1,hh2⟩:=Zs sil a b s;have heq:=MY p p;rw[Aju rfl] at heq;have hsm:=Kh X;have dC:decide (C=C)=true:=Aju rfl;have dE:decide (E=E)=true:=Aju rfl
     repeat'(first|refine AJ ?_|refine sq 11 rfl ?_|fail)
     refine VC.le (σ':=AN [(1,AI turns),(2,AD (sis sil)),(3,AI a),(4,AI b),(5,AI s),(6,.c (.ptr 6 0)),(12,AB false),(13,AD (tbs (Aax m m.nodes.length)))] [(6,.box m.cs)]) ?_ ?_
     ·exact Cu (fun n=>n) [113] hS
     repeat'(first|refine AJ ?_|refine Aa (hn1) ?_|refine sq 12 rfl ?_|fail)
     refine Gi [(1,AI turns),(2,AD (sis sil)),(3,AI a),(4,AI b),(5,AI s),(6,.c (.ptr 6 0)),(12,AB false),(13,AD (tbs (Aax m m.nodes.length))),(16,.c (.ptr 16 0)),(17,AI E)] [(6,.box m.cs),(16,.box X.cs)] ?_
     repeat'(first|refine AJ ?_|refine Aa (hn2) ?_|refine sq 13 rfl ?_|fail)
     refine Gi [(1,AI turns),(2,AD (sis sil)),(3,AI a),(4,AI b),(5,AI s),(6,.c (.ptr 6 0)),(12,AB false),(16,.c (.ptr 16 0)),(17,AI E),(18,.c (.ptr 18 0)),(19,AI E)] [(6,.box m.cs),(16,.box X.cs),(18,.box X.cs)] ?_;cases B
     repeat'(first|refine Ad ?_|refine Aa (hc1) ?_|refine Aa (hc2) ?_|refine Aa (hp1) ?_|refine Aa (hp2) ?_|refine Aa (heq) ?_|refine Aa (hsm) ?_|refine Aa (hh1) ?_|refine Aa (hh2) ?_|fail)
     all_goals exact AO
end Go.Proofs.M
