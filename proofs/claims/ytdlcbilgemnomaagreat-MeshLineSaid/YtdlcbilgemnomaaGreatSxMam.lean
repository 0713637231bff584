/-
  What functions of the program hand back, and plain laws on that. No condition.
-/
import Derived.Test.YtdlcbilgemnomaaGreatSxMal
import Derived.Test.YtdlcbilgemnomaaGreatSxMag
import Derived.Test.YtdlcbilgemnomaaGreatSxMad
import Derived.Test.YtdlcbilgemnomaaGreatSxLibB
import Derived.Test.YtdlcbilgemnomaaGreatRows
import Derived.Test.YtdlcbilgemnomaaGreatSxMac
import Derived.Test.YtdlcbilgemnomaaGreatSxMak
set_option linter.unusedSimpArgs false
set_option linter.unusedVariables false
section
namespace Go.Proofs.M
open Go Go.Sx Go.Proofs Go.Proofs.T Go.Proofs.Q
open Go.Proofs.P (Nb nbs Rk rkA rkErr checkNb hearM countM forgetM select')
open Go.Proofs.R (startM advM)
set_option maxRecDepth 4000
attribute [local irreducible] VR VC thenQ blockQ retL
def paK (m:Me) (k:Nat):List Int:=(m.nodes.take k).map fun x=>x.rk.parent
theorem Xz {m:Me} {k:Nat} (hk:k<m.nodes.length):paK m (k+1)=paK m k++[(m.nodes.getD k default).rk.parent]:=by
 unfold paK;rw[List.take_add_one,Ag8,Agi,Agr hk];rfl
theorem Aao {m:Me} {k:Nat} (hk:k<=m.nodes.length):(paK m k).length=k:=by simp[paK,hk]
set_option maxHeartbeats 1000000 in
theorem I4 (m:Me):FnS Tryz.prog 18 [meA m] [] (AD (ints (D7 m))) []:=by
 have hck:=BM m;refine fb Tryz.func18 (by kernel_rfl) rfl Tryz.ntmps18 Tryz.results18 rfl rfl rfl rfl fun E hS=>?_
 refine AJ ?_;by_cases h:BX m=0
 ·have d1:decide (BX m≠0)=false:=Agk (fun hn=>hn h);obtain⟨hh,_⟩:=C7.1 h;have hn2:=hh.n2;have e:D7 m=paK m m.nodes.length:=by
   unfold D7 paK;rw[AgY (fun hn=>hn h),List.take_length]
  rw[e]
  repeat'(first|refine sC ?_|refine Ak rfl (by exact tt0) ?_|(refine gC ?_;first|refine Aa (hck) (gk rfl) rfl rfl rfl (by rfl) rfl (by rfl) rfl ?_)|(refine gD ?_;first|refine Ah rfl ?_|refine At rfl (by assumption) ?_)|fail)
  refine VC.le (le_nil (t:=3) (nm:=103) (T:=3) (sz:=1) rfl rfl) ?_;refine AK (ι:=Nat) (fun k=>AS [(3,.c (.row 103 (paK m k).length)),(10,AD (mns m.nodes)),(11,AI m.nodes.length),(12,AI k)] [(103,.row 3 1 (rowOf Fz.enc (paK m k)))]) (fun k=>k<=m.nodes.length) (fun k=>m.nodes.length-k) 0 (Ag1 _) ?_ ?_
  ·refine lg ?_ ?_ rfl (by rfl)
   all_goals repeat'(first|exact tt0|refine⟨⟨_,rfl,?_⟩,?_⟩|exact .c .d|exact .c (.row rfl rfl)|exact .Bc rfl Ag|fail)
  ·intro k hk;have hl:=Aao hk;by_cases hc:k<m.nodes.length
   ·have hd:decide ((k:Int)<(m.nodes.length:Int))=true:=Agj (by omega);have hs:=Xz hc
    repeat'(first|refine sC ?_|refine Ak rfl (by first|exact tt0|omega) ?_|(refine gI ?_;first|refine Au (gk rfl) rfl rfl rfl rfl rfl (by omega) rfl ?_)|(refine gA ?_;first|refine Be (gk rfl) rfl rfl rfl (by exact Al.symm) (by exact .row rfl (by rfl)) rfl rfl rfl (by(try dsimp only);omega) rfl rfl ?_)|(refine gD ?_;first|refine Ai rfl ?_|refine At rfl (by assumption) ?_)|fail)
    refine⟨k+1,by omega,by omega,?_⟩;rw[hs,Agn];refine Am (fun n=>if n=103 then 21 else n) ?_ ?_ rfl (by(simp only[wfL,wfs,Ae,Ad];rfl))
    all_goals repeat'(first|exact tt0|refine⟨⟨_,rfl,?_⟩,?_⟩|exact .c .d|exact .c (.row rfl rfl)|(refine .Bc ?_ Ag;rw[AZ];rfl)|fail)
   ·have hd:decide ((k:Int)<(m.nodes.length:Int))=false:=Agk (by omega);have hkl:k=m.nodes.length:=by omega
    subst hkl
    repeat'(first|refine sB ?_|refine Ak rfl (by exact tt0) ?_|(refine gD ?_;first|refine Ah rfl ?_|refine At rfl (by assumption) ?_)|fail)
    refine Ao (Bm (l:=[(2,AD (ints (paK m m.nodes.length)))]) (b:=[]) (fun n=>n) [103] hS ?_ ?_ rfl (by rfl)) (P1 Ab rfl rfl)
    all_goals repeat'(first|exact tt0|refine⟨⟨_,rfl,?_⟩,?_⟩|exact .c (.Cd (by(simp;done)) rfl rfl (fun _=>rfl))|fail)
 ·have d1:decide (BX m≠0)=true:=Agj h;have e:D7 m=[]:=AgZ h;rw[e]
  repeat'(first|refine sB ?_|refine Ak rfl (by exact tt0) ?_|(refine gC ?_;first|refine Aa (hck) (gk rfl) rfl rfl rfl (by rfl) rfl (by rfl) rfl ?_)|(refine gD ?_;first|refine Ai rfl ?_|refine At rfl (by assumption) ?_)|fail)
  refine Ao (Am (l:=[(2,AD (ints []))]) (b:=[]) (fun n=>n) ?_ ?_ rfl (by rfl)) (P1 Ab rfl rfl)
  all_goals repeat'(first|exact tt0|refine⟨⟨_,rfl,?_⟩,?_⟩|exact .c .nil|fail)
def Tb.enc (t:Tb):List D:=[.int .i64 t.node,.int .i64 t.len,tcs t.cells]
abbrev tbs (l:List Tb):D:=Iv Tb.enc 3 l
def okN (t:Tb) (i:Nat):Prop:=(MF t 16 i).2=0/\(startM i).2=0
def nwN (t:Tb) (i:Nat):MN:=⟨(MF t 16 i).1,(startM i).1,[],0⟩
theorem Oc (turns:Int):∀(ts:List Tb) (j:Nat),(∀i,i<ts.length->okN (ts.getD i default) (j+i))->WO turns ts j=some ((List.range ts.length).map fun i=>nwN (ts.getD i default) (j+i))
 |[],_,_=>rfl
 |t :: ts,j,h=>by
  have h0:=h 0 (by simp);have ih:=Oc turns ts (j+1) fun i hi=>by
   have:=h (i+1) (by simp;omega)
   rwa [show j+(i+1)=j+1+i by omega] at this
  unfold WO;rw[AgY (fun hn=>hn.elim (fun a=>a h0.1) (fun a=>a h0.2)),ih];simp only[List.length_cons,List.range_succ_eq_map,List.map_cons,List.map_map];refine congrArg some (congrArg (List.cons _) (List.map_congr_left fun i _=>?_));show nwN (ts.getD i default) (j+1+i)=nwN ((t :: ts).getD (i+1) default) (j+(i+1));rw[show j+(i+1)=j+1+i by omega];rfl
theorem Kl (turns:Int):∀(ts:List Tb) (j k:Nat),k<ts.length->¬okN (ts.getD k default) (j+k)->WO turns ts j=none
 |[],_,k,hk,_=>by cases hk
 |t :: ts,j,0,_,h=>by
  unfold WO;rw[AgZ];by_cases h1:(MF t 16 j).2=0
  ·exact .inr fun h2=>h ⟨h1,h2⟩
  ·exact .inl h1
 |t :: ts,j,k+1,hk,h=>by
  have ih:=Kl turns ts (j+1) k (by simpa using hk) (by rwa [show j+1+k=j+(k+1) by omega]);unfold WO
  split
  ·rfl
  ·rw[ih]
def nwK (ts:List Tb) (k:Nat):List MN:=(List.range k).map fun i=>nwN (ts.getD i default) i
theorem XD (ts:List Tb) (k:Nat):nwK ts (k+1)=nwK ts k++[nwN (ts.getD k default) k]:=by
 unfold nwK;rw[List.range_succ,Ag8];rfl
theorem J6 {σ:St} {f:Nat->Nat} {L:List Nat}:∀{xs:List (List C)},(∀x∈xs,x.all C.isD=true)->A5 (A5 (CW σ f L)) xs xs
 |[],_=>.nil
 |x :: xs,hd=>.cons (CWs.refl (hd x (by simp))) (J6 fun y hy=>hd y (by simp[hy]))
theorem Aav (ts:List Tb) (k:Nat):(nwK ts k).length=k:=by simp[nwK]
set_option maxHeartbeats 2000000 in
theorem Og (ts:List Tb) (turns:Int):FnS Tryz.prog 13 [AD (tbs ts),AI turns] [] (.tup [meA (CM ts turns).1,AI (CM ts turns).2]) []:=by
 refine fb Tryz.func13 (by kernel_rfl) rfl Tryz.ntmps13 Tryz.results13 rfl rfl rfl rfl fun E hS=>?_
 refine AJ ?_;refine B9 (t:=0) rfl fun hb=>?_
 repeat'(first|refine sC ?_|refine Ak rfl (by exact tt0) ?_|fail)
 refine VC.le (MP (bx:=6) (nm:=103) (T:=45) (sz:=22) (j:=0) rfl rfl rfl) ?_;refine AK (ι:=Nat) (fun k=>AS [(4,.c (.ptr 4 0)),(5,AI 0),(6,.c (.ptr 6 0)),(15,AD (tbs ts)),(16,AI ts.length),(17,AI k)] [(4,.box noM.cs),(6,.box [.row 103 (nwK ts k).length,.d (.int .i64 0),.d (.int .i64 turns),.d .Db]),(103,.row 45 22 (rowOf MN.enc (nwK ts k)))])
  (fun k=>k<=ts.length/\k<=32/\∀i,i<k->okN (ts.getD i default) i) (fun k=>ts.length-k) 0 ⟨Ag1 _,Ag1 _,fun i hi=>absurd hi (AgW _)⟩ ?_ ?_
 ·refine lg ?_ ?_ rfl (by rfl)
  all_goals repeat'(first|exact tt0|refine⟨⟨_,rfl,?_⟩,?_⟩|exact .c .d|exact .c (.ptr rfl)|exact .Bc rfl Ag|refine .box ?_|exact .nil|refine .cons ?_ ?_|exact .d|exact .row rfl rfl|fail)
 ·rintro k ⟨hk,hk32,hall⟩;have hl:=Aav ts k;by_cases hc:k<ts.length
  ·have hd:decide ((k:Int)<(ts.length:Int))=true:=Agj (by omega);have hns:=XF (ts.getD k default) 16 k;have hss:=R.GB (k:Int);by_cases h1:(MF (ts.getD k default) 16 k).2=0
   ·have d1:decide ((MF (ts.getD k default) 16 k).2≠0)=false:=Agk (fun hn=>hn h1);by_cases h2:(startM k).2=0
    ·have d2:decide ((startM k).2≠0)=false:=Agk (fun hn=>hn h2);have h31:k<32:=by
      unfold startM at h2
      split at h2
      ·cases h2
      ·rename_i hn;unfold P.Ei P.inR at hn;simp only[Agm,Agu,Bool.and_eq_false_iff,not_or] at hn;omega
     repeat'(first|refine sC ?_|refine Ak rfl (by first|exact tt0|omega) ?_|(refine gC ?_;first|refine Aa (hns) (gk rfl) rfl rfl rfl (by rfl) rfl (by rfl) rfl ?_|refine Aa (hss) (gk rfl) rfl rfl rfl (by rfl) rfl (by rfl) rfl ?_)|(refine gI ?_;first|refine Au (gk rfl) rfl rfl rfl rfl rfl (by omega) rfl ?_)|(refine gA ?_;first|refine Be (gk rfl) rfl rfl rfl (by exact Al.symm) (by exact .row rfl (by rfl)) rfl rfl rfl (by(try dsimp only);omega) rfl rfl ?_)|refine Az rfl (by assumption) ?_|(refine gD ?_;first|refine Ai rfl ?_|refine Ah rfl ?_|refine At rfl (by assumption) ?_)|fail)
     refine⟨k+1,⟨by omega,by omega,fun i hi=>?_⟩,by omega,?_⟩
     ·by_cases h:i<k
      ·exact hall i h
      ·have:i=k:=by omega
       subst this;exact⟨h1,h2⟩
     ·rw[XD,Agn];refine Am (fun n=>if n=103 then 46 else n) ?_ ?_ rfl (by(simp only[wfL,wfs,Ae,Ad];rfl))
      all_goals repeat'(first|exact tt0|refine⟨⟨_,rfl,?_⟩,?_⟩|exact .c .d|exact .c (.ptr rfl)|exact .Bs rfl rfl|refine .box ?_|exact .nil|refine .cons ?_ ?_|exact .d|exact .row rfl rfl|fail)
      rw[AZ];exact .row (A5.append (J6 Ag) (.cons (.cons .d (.cons .d (.cons .d (.cons .d (.cons .d (.cons .d (.cons .d (.cons .d (.cons .d (.cons .d (.cons .d (.cons .d (.cons .d (.cons .d (.cons .d (.cons .d (.cons .d (.cons .d (.cons .d (.cons .d (.cons .nil (.cons .d .nil)))))))))))))))))))))) .nil))
    ·have d2:decide ((startM k).2≠0)=true:=Agj h2;have e:CM ts turns=(noM,1):=by
      unfold CM;rw[Kl turns ts 0 k hc (by rw[Nat.zero_add];exact fun h=>h2 h.2)]
     rw[e]
     repeat'(first|refine sC ?_|refine Ak rfl (by exact tt0) ?_|(refine gC ?_;first|refine Aa (hns) (gk rfl) rfl rfl rfl (by rfl) rfl (by rfl) rfl ?_|refine Aa (hss) (gk rfl) rfl rfl rfl (by rfl) rfl (by rfl) rfl ?_)|(refine gI ?_;first|refine Au (gk rfl) rfl rfl rfl rfl rfl (by omega) rfl ?_)|refine Az rfl (by assumption) ?_|(refine gD ?_;first|refine Ai rfl ?_|refine At rfl (by assumption) ?_)|fail)
     refine Ao (Am (l:=[(4,.c (.ptr 4 0)),(5,AI 1)]) (b:=[(4,.box noM.cs)]) (fun n=>n) ?_ ?_ rfl (by rfl)) (AL Ab rfl rfl rfl rfl rfl rfl rfl)
     all_goals repeat'(first|exact tt0|refine⟨⟨_,rfl,?_⟩,?_⟩|exact .c .d|exact .c (.ptr rfl)|refine .box ?_|exact .nil|refine .cons ?_ ?_|exact .d|fail)
   ·have d1:decide ((MF (ts.getD k default) 16 k).2≠0)=true:=Agj h1;have e:CM ts turns=(noM,1):=by
     unfold CM;rw[Kl turns ts 0 k hc (by rw[Nat.zero_add];exact fun h=>h1 h.1)]
    rw[e]
    repeat'(first|refine sC ?_|refine Ak rfl (by exact tt0) ?_|(refine gC ?_;first|refine Aa (hns) (gk rfl) rfl rfl rfl (by rfl) rfl (by rfl) rfl ?_|refine Aa (hss) (gk rfl) rfl rfl rfl (by rfl) rfl (by rfl) rfl ?_)|(refine gI ?_;first|refine Au (gk rfl) rfl rfl rfl rfl rfl (by omega) rfl ?_)|refine Az rfl (by assumption) ?_|(refine gD ?_;first|refine Ai rfl ?_|refine At rfl (by assumption) ?_)|fail)
    refine Ao (Am (l:=[(4,.c (.ptr 4 0)),(5,AI 1)]) (b:=[(4,.box noM.cs)]) (fun n=>n) ?_ ?_ rfl (by rfl)) (AL Ab rfl rfl rfl rfl rfl rfl rfl)
    all_goals repeat'(first|exact tt0|refine⟨⟨_,rfl,?_⟩,?_⟩|exact .c .d|exact .c (.ptr rfl)|refine .box ?_|exact .nil|refine .cons ?_ ?_|exact .d|fail)
  ·have hd:decide ((k:Int)<(ts.length:Int))=false:=Agk (by omega);have hkl:k=ts.length:=by omega
   subst hkl;have e:CM ts turns=if BX ⟨nwK ts ts.length,0,turns,[]⟩≠0 then(noM,1) else(⟨nwK ts ts.length,0,turns,[]⟩,0):=by
    unfold CM;rw[Oc turns ts 0 (fun i hi=>by rw[Nat.zero_add];exact hall i hi)];simp only[Nat.zero_add];rfl
   rw[e];have hck:=BM ⟨nwK ts ts.length,0,turns,[]⟩
   repeat'(first|refine sA ?_|refine Ak rfl (by exact tt0) ?_|refine sq 11 rfl ?_|((fail_if_success (show VC _ (.region 11 _ _) _ _));refine Bg ?_)|(refine gD ?_;first|refine Ah rfl ?_|refine At rfl (by assumption) ?_)|fail)
   refine VC.le (σ':=AS [(4,.c (.ptr 4 0)),(5,AI 0),(6,.c (.ptr 6 0))] [(4,.box noM.cs),(6,.box (Me.cs ⟨nwK ts ts.length,0,turns,[]⟩))]) ?_ ?_
   ·refine Bm (fun n=>n) [103] hS ?_ ?_ rfl (by rfl)
    all_goals repeat'(first|exact tt0|refine⟨⟨_,rfl,?_⟩,?_⟩|exact .c .d|exact .c (.ptr rfl)|exact .Bs rfl rfl|refine .box ?_|exact .nil|refine .cons ?_ ?_|exact .d|exact .Cd (by(simp;done)) rfl rfl (fun _=>rfl)|fail)
   by_cases h3:BX ⟨nwK ts ts.length,0,turns,[]⟩=0
   ·have d3:decide (BX ⟨nwK ts ts.length,0,turns,[]⟩≠0)=false:=Agk (fun hn=>hn h3);rw[AgY (fun hn=>hn h3)]
    repeat'(first|refine sB ?_|refine Ak rfl (by exact tt0) ?_|(refine gC ?_;first|refine Aa (hck) (gk rfl) rfl rfl rfl (by rfl) rfl (by rfl) rfl ?_)|(refine gD ?_;first|refine Ah rfl ?_|refine At rfl (by assumption) ?_)|fail)
    refine Ao (Am (l:=[(4,.c (.ptr 4 0)),(5,AI 0)]) (b:=[(4,.box (Me.cs ⟨nwK ts ts.length,0,turns,[]⟩))]) (fun n=>n) ?_ ?_ rfl (by rfl)) (AL Ab rfl rfl rfl rfl rfl rfl rfl)
    all_goals repeat'(first|exact tt0|refine⟨⟨_,rfl,?_⟩,?_⟩|exact .c .d|exact .c (.ptr rfl)|exact .Bs rfl rfl|fail)
   ·have d3:decide (BX ⟨nwK ts ts.length,0,turns,[]⟩≠0)=true:=Agj h3;rw[AgZ h3]
    repeat'(first|refine sB ?_|refine Ak rfl (by exact tt0) ?_|(refine gC ?_;first|refine Aa (hck) (gk rfl) rfl rfl rfl (by rfl) rfl (by rfl) rfl ?_)|(refine gD ?_;first|refine Ai rfl ?_|refine At rfl (by assumption) ?_)|fail)
    refine Ao (Am (l:=[(4,.c (.ptr 4 0)),(5,AI 1)]) (b:=[(4,.box noM.cs)]) (fun n=>n) ?_ ?_ rfl (by rfl)) (AL Ab rfl rfl rfl rfl rfl rfl rfl)
    all_goals repeat'(first|exact tt0|refine⟨⟨_,rfl,?_⟩,?_⟩|exact .c .d|exact .c (.ptr rfl)|refine .box ?_|exact .nil|refine .cons ?_ ?_|exact .d|fail)
end Go.Proofs.M
end
section
namespace Go.Proofs.M
open Go Go.Sx Go.Proofs Go.Proofs.T Go.Proofs.Q
set_option maxRecDepth 4000
attribute [local irreducible] VR VC thenQ blockQ retL
def Oz (n i:Nat) (s:Nat):List TC:=if i+s=n then[⟨s,1,2,true,(i:Int)-1,-1⟩] else if i+s+1=n then[⟨s,1,2,false,(i:Int)+1,-1⟩] else[]
def lcK (n i:Nat):Nat->List TC
 |0=>[⟨0,0,3,false,-1,-1⟩]
 |s+1=>lcK n i s++Oz n i (s+1)
def Ade (n i:Nat):Tb:=⟨i,n,lcK n i (n-1)⟩
def Kr (n k:Nat):List Tb:=(List.range k).map (Ade n)
def Gm (n:Nat):List Tb:=Kr n n
theorem Tl (n k:Nat):Kr n (k+1)=Kr n k++[Ade n k]:=by
 unfold Kr;rw[List.range_succ,Ag8];rfl
theorem Vi (n k:Nat):(Kr n k).length=k:=by simp[Kr]
theorem Vn (n i:Nat):∀s,(lcK n i s).length<=s+1
 |0=>Ag0 _
 |s+1=>by
  have:=Vn n i s;show(lcK n i s++Oz n i (s+1)).length<=s+2;rw[Agn];have h:(Oz n i (s+1)).length<=1:=by
   unfold Oz
   split
   ·simp
   ·split<;>simp
  omega
set_option maxHeartbeats 2000000 in
theorem Ow (n:Nat) (hn:n<=100):FnS Tryz.prog 32 [AI (n:Int)] [] (AD (tbs (Gm n))) []:=by
 refine fb Tryz.func32 (by kernel_rfl) rfl Tryz.ntmps32 Tryz.results32 rfl rfl rfl rfl fun E hS=>?_
 refine AJ ?_
 repeat'(first|refine sC ?_|refine Ak rfl (by exact tt0) ?_|fail)
 refine VC.le (le_nil (t:=3) (nm:=103) (T:=33) (sz:=3) rfl rfl) ?_;refine AK (ι:=Nat) (fun k=>AS [(0,AI n),(3,.c (.row 103 (Kr n k).length)),(8,AI n),(9,AI k)] [(103,.row 33 3 (rowOf Tb.enc (Kr n k)))]) (fun k=>k<=n) (fun k=>n-k) 0 (Ag1 _) ?_ ?_
 ·refine lg ?_ ?_ rfl (by rfl)
  all_goals repeat'(first|exact tt0|refine⟨⟨_,rfl,?_⟩,?_⟩|exact .c .d|exact .c (.row rfl rfl)|exact .Bc rfl Ag|fail)
 ·intro k hk;have hl:=Vi n k;by_cases hc:k<n
  ·have hd:decide ((k:Int)<(n:Int))=true:=Agj (by omega)
   repeat'(first|refine sC ?_|refine Ak rfl (by exact tt0) ?_|(refine gD ?_;first|refine Ai rfl ?_|refine At rfl (by assumption) ?_)|fail)
   refine AK (ι:=Nat) (fun s=>AS [(0,AI n),(3,.c (.row 103 (Kr n k).length)),(8,AI n),(9,AI k),(4,AI k),(5,.c (.ptr 5 0)),(6,AI ((s+1:Nat):Int))] [(103,.row 33 3 (rowOf Tb.enc (Kr n k))),(5,.box [.d (.int .i64 k),.d (.int .i64 n),.row 104 (lcK n k s).length]),(104,.row 107 6 (rowOf TC.enc (lcK n k s)))])
    (fun s=>s+1<=n) (fun s=>n-s) 0 (by omega) ?_ ?_
   ·refine Am (fun n=>if n=104 then 15 else n) ?_ ?_ rfl (by(simp only[wfL,wfs,Ae,Ad];rfl))
    all_goals repeat'(first|exact tt0|refine⟨⟨_,rfl,?_⟩,?_⟩|exact .c .d|exact .c (.ptr rfl)|exact .c (.row rfl rfl)|exact .Bc rfl Ag|refine .box ?_|exact .nil|refine .cons ?_ ?_|exact .d|exact .row rfl rfl|fail)
   ·intro s hs;have hcl:=Vn n k s;by_cases hc2:s+1<n
    ·have hd2:decide (((s+1:Nat):Int)<(n:Int))=true:=Agj (by omega);have e:lcK n k (s+1)=lcK n k s++Oz n k (s+1):=rfl;by_cases e1:k+(s+1)=n
     ·have d1:decide ((k:Int)=(n:Int)-((s+1:Nat):Int))=true:=Agj (by omega);unfold Oz at e;rw[AgZ e1] at e
      repeat'(first|refine sC ?_|refine Ak rfl (by first|exact tt0|omega) ?_|(refine gA ?_;first|refine Be (gk rfl) rfl rfl rfl (by exact Al.symm) (by exact .row rfl (by rfl)) rfl rfl rfl (by(try dsimp only);omega) rfl rfl ?_)|(refine gD ?_;first|refine Ai rfl ?_|refine At rfl (by assumption) ?_)|fail)
      refine⟨s+1,by omega,by omega,?_⟩;rw[e,Agn];refine Am (fun n=>if n=104 then 47 else n) ?_ ?_ rfl (by(simp only[wfL,wfs,Ae,Ad];rfl))
      all_goals repeat'(first|exact tt0|refine⟨⟨_,rfl,?_⟩,?_⟩|exact .c .d|exact .c (.ptr rfl)|exact .c (.row rfl rfl)|exact .Bc rfl Ag|(refine .Bc ?_ Ag;rw[AZ];rfl)|refine .box ?_|exact .nil|refine .cons ?_ ?_|exact .d|exact .row rfl rfl|fail)
     ·have d1:decide ((k:Int)=(n:Int)-((s+1:Nat):Int))=false:=Agk (by omega);by_cases e2:k+(s+1)+1=n
      ·have d2:decide ((k:Int)=(n:Int)-((s+1:Nat):Int)-1)=true:=Agj (by omega);unfold Oz at e;rw[AgY e1,AgZ e2] at e
       repeat'(first|refine sC ?_|refine Ak rfl (by first|exact tt0|omega) ?_|(refine gA ?_;first|refine Be (gk rfl) rfl rfl rfl (by exact Al.symm) (by exact .row rfl (by rfl)) rfl rfl rfl (by(try dsimp only);omega) rfl rfl ?_)|(refine gD ?_;first|refine Ai rfl ?_|refine Ah rfl ?_|refine At rfl (by assumption) ?_)|fail)
       refine⟨s+1,by omega,by omega,?_⟩;rw[e,Agn];refine Am (fun n=>if n=104 then 47 else n) ?_ ?_ rfl (by(simp only[wfL,wfs,Ae,Ad];rfl))
       all_goals repeat'(first|exact tt0|refine⟨⟨_,rfl,?_⟩,?_⟩|exact .c .d|exact .c (.ptr rfl)|exact .c (.row rfl rfl)|exact .Bc rfl Ag|(refine .Bc ?_ Ag;rw[AZ];rfl)|refine .box ?_|exact .nil|refine .cons ?_ ?_|exact .d|exact .row rfl rfl|fail)
      ·have d2:decide ((k:Int)=(n:Int)-((s+1:Nat):Int)-1)=false:=Agk (by omega);unfold Oz at e;rw[AgY e1,AgY e2,AgF] at e
       repeat'(first|refine sC ?_|refine Ak rfl (by first|exact tt0|omega) ?_|refine Aak rfl ?_|(refine gD ?_;first|refine Ai rfl ?_|refine Ah rfl ?_|refine At rfl (by assumption) ?_)|fail)
       refine⟨s+1,by omega,by omega,?_⟩;rw[e];refine Am (fun n=>n) ?_ ?_ rfl (by(simp only[wfL,wfs,Ae,Ad];rfl))
       all_goals repeat'(first|exact tt0|refine⟨⟨_,rfl,?_⟩,?_⟩|exact .c .d|exact .c (.ptr rfl)|exact .c (.row rfl rfl)|exact .Bc rfl Ag|refine .box ?_|exact .nil|refine .cons ?_ ?_|exact .d|exact .row rfl rfl|fail)
    ·have hd2:decide (((s+1:Nat):Int)<(n:Int))=false:=Agk (by omega);have hs1:s=n-1:=by omega
     repeat'(first|refine sB ?_|refine Ak rfl (by first|exact tt0|omega) ?_|(refine gA ?_;first|refine Be (gk rfl) rfl rfl rfl (by exact Al.symm) (by exact .row rfl (by rfl)) rfl rfl rfl (by(try dsimp only);omega) rfl rfl ?_)|(refine gD ?_;first|refine Ah rfl ?_|refine At rfl (by assumption) ?_)|fail)
     refine⟨k+1,by omega,by omega,?_⟩;rw[Tl,Agn];refine Bm (fun n=>if n=103 then 52 else n) [104] hS ?_ ?_ rfl (by(simp only[wfL,wfs,Ae,Ad];rfl))
     all_goals repeat'(first|exact tt0|refine⟨⟨_,rfl,?_⟩,?_⟩|exact .c .d|exact .c (.row rfl rfl)|fail)
     rw[AZ];refine .row (A5.append (J6 Ag) (.cons (.cons .d (.cons .d (.cons ?_ .nil))) .nil));show CW _ _ _ _ (C.d (tcs (lcK n k (n-1))));rw[<-hs1];exact .Cd (by simp) rfl rfl (fun _=>rfl)
  ·have hd:decide ((k:Int)<(n:Int))=false:=Agk (by omega);have hkl:k=n:=by omega
   subst hkl
   repeat'(first|refine sB ?_|refine Ak rfl (by exact tt0) ?_|(refine gD ?_;first|refine Ah rfl ?_|refine At rfl (by assumption) ?_)|fail)
   refine Ao (Bm (l:=[(2,AD (tbs (Kr k k)))]) (b:=[]) (fun n=>n) [103] hS ?_ ?_ rfl (by rfl)) (P1 Ab rfl rfl)
   all_goals repeat'(first|exact tt0|refine⟨⟨_,rfl,?_⟩,?_⟩|exact .c (.Cd (by(simp;done)) rfl rfl (fun _=>rfl))|fail)
theorem KH (a b:List Int):FnS Tryz.prog 17 [AD (ints a),AD (ints b)] [] (AB (decide (a=b))) []:=by
 refine fb Tryz.func17 (by kernel_rfl) rfl Tryz.ntmps17 Tryz.results17 rfl rfl rfl rfl fun E hS=>?_
 refine B9 (t:=0) rfl fun hb=>?_
 repeat'(first|refine sC ?_|refine Ak rfl (by exact tt0) ?_|(refine gD ?_;first|(refine Ay rfl ?_ ?_<;>intro h<;>have hq:=h<;>(try simp only[hqs] at hq)))|fail)
 ·refine Aw Ab rfl ?_;have:a≠b:=fun e=>by subst e;simp_all
  simp[this]
 ·refine AK (ι:=Nat) (fun k=>AS [(0,AD (ints a)),(1,AD (ints b)),(12,AI a.length),(13,AI k)] []) (fun k=>k<=a.length/\∀i,i<k->a.getD i default=b.getD i default) (fun k=>a.length-k) 0 ⟨Ag1 _,fun i hi=>absurd hi (AgW _)⟩ ?_ ?_
  ·exact Ck ⟨rfl,rfl,rfl,rfl,trivial⟩ trivial rfl
  ·rintro k ⟨hk,hall⟩
   repeat'(first|refine sC ?_|refine Ak rfl (by first|exact tt0|omega) ?_|(refine gI ?_;first|refine Au (gk rfl) rfl rfl rfl rfl rfl (by omega) rfl ?_)|refine Ap (by kernel_rfl) ?_|(refine gD ?_;first|(refine Ay rfl ?_ ?_<;>intro h<;>have hq:=h<;>(try simp only[hqs] at hq)))|fail)
   ·refine Aw Ab rfl ?_;have:a≠b:=fun e=>hq (by rw[e])
    simp[this]
   ·refine⟨k+1,⟨by omega,fun i hi=>?_⟩,by omega,Ck ⟨rfl,rfl,rfl,rfl,trivial⟩ trivial rfl⟩;by_cases hik:i<k
    ·exact hall i hik
    ·have:i=k:=by omega
     subst this;exact hq
   ·refine Aw Ab rfl ?_;have:a=b:=Go.Sx.HZ (by omega) fun i hi=>hall i (by omega)
    simp[this]
theorem OX (a b:List Ar):FnS Tryz.prog 37 [AD (ars a),AD (ars b)] [] (AB (decide (a=b))) []:=by
 refine fb Tryz.func37 (by kernel_rfl) rfl Tryz.ntmps37 Tryz.results37 rfl rfl rfl rfl fun E hS=>?_
 refine B9 (t:=0) rfl fun hb=>?_
 repeat'(first|refine sC ?_|refine Ak rfl (by exact tt0) ?_|(refine gD ?_;first|(refine Ay rfl ?_ ?_<;>intro h<;>have hq:=h<;>(try simp only[hqs] at hq)))|fail)
 ·refine Aw Ab rfl ?_;have:a≠b:=fun e=>by subst e;simp_all
  simp[this]
 ·refine AK (ι:=Nat) (fun k=>AS [(0,AD (ars a)),(1,AD (ars b)),(12,AI a.length),(13,AI k)] []) (fun k=>k<=a.length/\∀i,i<k->a.getD i default=b.getD i default) (fun k=>a.length-k) 0 ⟨Ag1 _,fun i hi=>absurd hi (AgW _)⟩ ?_ ?_
  ·exact Ck ⟨rfl,rfl,rfl,rfl,trivial⟩ trivial rfl
  ·rintro k ⟨hk,hall⟩
   repeat'(first|refine sC ?_|refine Ak rfl (by first|exact tt0|omega) ?_|(refine gI ?_;first|refine Au (gk rfl) rfl rfl rfl rfl rfl (by omega) rfl ?_)|(refine gB ?_;first|refine PB (gk rfl) rfl rfl rfl rfl rfl rfl rfl ?_)|refine Ap (by kernel_rfl) ?_|(refine gD ?_;first|(refine Ay rfl ?_ ?_<;>intro h<;>have hq:=h<;>(try simp only[hqs] at hq)))|fail)
   ·refine Aw Ab rfl ?_;have:a≠b:=fun e=>hq (by rw[e])
    simp[this]
   ·refine⟨k+1,⟨by omega,fun i hi=>?_⟩,by omega,Ck ⟨rfl,rfl,rfl,rfl,trivial⟩ trivial rfl⟩;by_cases hik:i<k
    ·exact hall i hik
    ·have:i=k:=by omega
     subst this;exact Afh hq
   ·refine Aw Ab rfl ?_;have:a=b:=Go.Sx.HZ (by omega) fun i hi=>hall i (by omega)
    simp[this]
set_option maxRecDepth 100000 in
theorem AdK:decide ((CM (Gm 2) 2).2=0)=true:=by kernel_rfl
set_option maxRecDepth 100000 in
theorem AdI:decide ((SU (CM (Gm 2) 2).1 2 [⟨1,1⟩] []).2=0/\(SU (CM (Gm 2) 2).1 2 [⟨1,1⟩] []).1.slot=2/\((SU (CM (Gm 2) 2).1 2 [⟨1,1⟩] []).1.nodes.getD 1 default).rk.rank=256/\(SU (CM (Gm 2) 2).1 2 [⟨1,1⟩] []).1.arr=[⟨1,0,1⟩]/\(SU (CM (Gm 2) 2).1 2 [⟨1,1⟩] []).1.nodes.length=2)=true:=by kernel_rfl
set_option maxRecDepth 100000 in
theorem AdJ:decide (D7 (SU (CM (Gm 2) 2).1 2 [⟨1,1⟩] []).1=[-1,0])=true:=by kernel_rfl
theorem AdL:∃m1 m2:Me,FnS Tryz.prog 13 [AD (tbs (Gm 2)),AI 2] [] (.tup [meA m1,AI 0]) []/\FnS Tryz.prog 23 [meA m1,AI 2,AD (lds [⟨1,1⟩]),AD (sis [])] [] (.tup [meA m2,AI 0]) [] /\
  FnS Tryz.prog 18 [meA m2] [] (AD (ints [-1,0])) []/\m2.slot=2/\(m2.nodes.getD 1 default).rk.rank=256/\m2.arr=[⟨1,0,1⟩]/\m2.nodes.length=2:=by
 have h1:=AgI AdK;have h2:=AgI AdI;have h3:=AgI AdJ;have s1:=Og (Gm 2) 2;have s2:=Od (CM (Gm 2) 2).1 2 [⟨1,1⟩] [];have s3:=I4 (SU (CM (Gm 2) 2).1 2 [⟨1,1⟩] []).1;rw[h1] at s1;rw[h2.1] at s2;rw[h3] at s3;exact⟨_,_,s1,s2,s3,h2.2⟩
set_option maxHeartbeats 2000000 in
theorem T0:FnS Tryz.prog 10 [] [] (AB true) []:=by
 obtain⟨m1,m2,s1,s2,s3,h1,h2,h3,h4⟩:=AdL;have hl:=Ow 2 (by omega);have e1:=KH [-1,0] [-1,0];have e2:=OX m2.arr [⟨1,0,1⟩];have d1:decide (m2.slot=2)=true:=Agj h1;have d2:decide ((m2.nodes.getD 1 default).rk.rank=256)=true:=Agj h2;refine fb Tryz.func10 (by kernel_rfl) rfl Tryz.ntmps10 Tryz.results10 rfl rfl rfl rfl fun E hS=>?_
 repeat'(first|refine sR ?_|refine Ak rfl (by exact tt0) ?_|(refine gC ?_;first|refine Aa (hl) (gk rfl) rfl rfl rfl (by rfl) rfl (by rfl) rfl ?_|refine Aa (s1) (gk rfl) rfl rfl rfl (by rfl) rfl (by rfl) rfl ?_)|refine sq 2 rfl ?_|fail)
 refine VC.le (σ':=AS [(0,AB false),(1,.c (.ptr 1 0)),(2,AI 0)] [(1,.box m1.cs)]) ?_ ?_
 ·refine lg ?_ ?_ rfl (by rfl)
  all_goals repeat'(first|exact tt0|refine⟨⟨_,rfl,?_⟩,?_⟩|exact .c .d|exact .c (.ptr rfl)|exact .Bs rfl rfl|fail)
 repeat'(first|refine sR ?_|refine Ak rfl (by exact tt0) ?_|(refine gC ?_;first|refine Q5 (nmL []) [12] [] (FnS.toW (s2)) (gk rfl) rfl rfl (by(repeat'(first|exact .nil|refine .cons ?_ ?_|exact .r (.of0 (.c .d))|refine .r ?_|exact .of0 (.c .nil)|exact .of0 (.c (A9 (by simp) rfl (by rfl) (fun _=>rfl)))|refine .of0 (.agg ?_)|exact .d))<;>fail) trivial rfl rfl rfl hS rfl (by rfl) rfl rfl rfl rfl (by(simp only[F5,List.map_cons,List.map_nil,Blk.ren,C.ren,Bp,BU,BT,gW,D1,nmL,Nat.reduceBEq,Bool.or_false,Bool.or_true,Bool.false_or,Bool.true_or,cond_true,cond_false,Nat.reduceMul,Nat.reduceAdd])<;>rfl) (by(simp only[AV.ren,AV.HQ,List.map_cons,List.map_nil,C.ren,gW,D1,nmL,Nat.reduceBEq,Bool.or_false,Bool.or_true,Bool.false_or,Bool.true_or,cond_true,cond_false,Nat.reduceMul,Nat.reduceAdd])<;>rfl) rfl ?_)|refine sq 3 rfl ?_|fail)
 refine VC.le (σ':=AS [(0,AB false),(1,.c (.ptr 1 0)),(2,AI 0),(3,AI 0)] [(1,.box m2.cs)]) ?_ ?_
 ·refine lg ?_ ?_ rfl (by rfl)
  all_goals repeat'(first|exact tt0|refine⟨⟨_,rfl,?_⟩,?_⟩|exact .c .d|exact .c (.ptr rfl)|exact .Bs rfl rfl|fail)
 repeat'(first|refine sB ?_|refine Ak rfl (by exact tt0) ?_|(refine gC ?_;first|refine Aa (s3) (gk rfl) rfl rfl rfl (by rfl) rfl (by rfl) rfl ?_|refine AF [30] (e1) (gk rfl) rfl (by(repeat'(first|exact .nil|refine .cons ?_ ?_|exact .of0 (.c .d)|exact .of0 (.c (A9 (by simp) rfl (by rfl) (fun _=>rfl)))))<;>fail) (by rfl) rfl (by rfl) rfl (by rfl) rfl ?_|refine AF [46] (e2) (gk rfl) rfl (by(repeat'(first|exact .nil|refine .cons ?_ ?_|exact .of0 (.c .d)|exact .of0 (.c (A9 (by simp) rfl (by rfl) (fun _=>rfl)))))<;>fail) (by rfl) rfl (by rfl) rfl (by rfl) rfl ?_)|(refine gI ?_;first|refine DA (gk rfl) rfl rfl rfl rfl (by omega) rfl ?_)|refine Az rfl (by assumption) ?_|fail)
 exact Aw Ab rfl (Agj h3).symm
end Go.Proofs.M
end
section
namespace Go.Proofs.M
open Go Go.Sx Go.Proofs Go.Proofs.T Go.Proofs.Q
open Go.Proofs.P (Nb nbs)
abbrev nbA (x:Nb):AV:=.agg x.cs
abbrev AeG:List Sh:=[.int .i64,.int .i64,.int .i64,.bool,.int .i64,.int .i64]
theorem Ab3 {d:D} (h:Dx (.sl AeG) d):∃l:List TC,DLe d (tcs l):=by
 unfold Dx at h;obtain⟨n,f,rfl,_,hf⟩:=h;obtain⟨l,_,_,hl⟩:=Xu TC.enc (fun _=>True) (n:=n) (sz:=6) (f:=f) (fun i hi=>by
  have:=hf i hi;simp only[Is] at this;obtain⟨h0,h1,h2,h3,h4,h5,_⟩:=this;obtain⟨a0,e0,w0⟩:∃n,f i 0=.int .i64 n/\(Lit.int .i64 n).wf=true:=by unfold Dx at h0;exact h0
  obtain⟨a1,e1,w1⟩:∃n,f i 1=.int .i64 n/\(Lit.int .i64 n).wf=true:=by unfold Dx at h1;exact h1
  obtain⟨a2,e2,w2⟩:∃n,f i 2=.int .i64 n/\(Lit.int .i64 n).wf=true:=by unfold Dx at h2;exact h2
  obtain⟨a3,e3⟩:∃n,f i 3=.bool n:=by unfold Dx at h3;exact h3
  obtain⟨a4,e4,w4⟩:∃n,f i 4=.int .i64 n/\(Lit.int .i64 n).wf=true:=by unfold Dx at h4;exact h4
  obtain⟨a5,e5,w5⟩:∃n,f i 5=.int .i64 n/\(Lit.int .i64 n).wf=true:=by unfold Dx at h5;exact h5
  refine⟨⟨a0,a1,a2,a3,a4,a5⟩,trivial,fun j hj=>?_⟩;have:j=0\/j=1\/j=2\/j=3\/j=4\/j=5:=by omega
  rcases this with rfl|rfl|rfl|rfl|rfl|rfl
  ·rw[show f i 0=_ from e0];exact DLe.refl _
  ·rw[show f i 1=_ from e1];exact DLe.refl _
  ·rw[show f i 2=_ from e2];exact DLe.refl _
  ·rw[show f i 3=_ from e3];exact DLe.refl _
  ·rw[show f i 4=_ from e4];exact DLe.refl _
  ·rw[show f i 5=_ from e5];exact DLe.refl _)
 exact⟨l,hl⟩
abbrev AfQ:List Sh:=[.int .i64,.int .i64,.int .i64,.int .i64,.int .i64,.str]
abbrev AfU:List Sh:=[.int .i64,.int .i64,.int .i64,.str,.sl [.int .i64]]
abbrev AfO:List Sh:=[.int .i64,.int .i64]
abbrev AfR:List Sh:=[.int .i64,.int .i64,.int .i64,.int .i64,.int .i64,.int .i64]
abbrev AfV:List Sh:=[.int .i64,.int .i64,.int .i64]
abbrev AfT:List Sh:=[.int .i64,.int .i64]
theorem Afz {d:D} (h:Dx (.sl AfT) d):∃l:List Ld,DLe d (lds l):=by
 unfold Dx at h;obtain⟨n,f,rfl,_,hf⟩:=h;obtain⟨l,_,_,hl⟩:=Xu Ld.enc (fun _=>True) (n:=n) (sz:=2) (f:=f) (fun i hi=>by
  have:=hf i hi;simp only[Is] at this;obtain⟨h0,h1,_⟩:=this;obtain⟨a0,e0,w0⟩:∃n,f i 0=.int .i64 n/\(Lit.int .i64 n).wf=true:=by unfold Dx at h0;exact h0
  obtain⟨a1,e1,w1⟩:∃n,f i 1=.int .i64 n/\(Lit.int .i64 n).wf=true:=by unfold Dx at h1;exact h1
  refine⟨⟨a0,a1⟩,trivial,fun j hj=>?_⟩;have:j=0\/j=1:=by omega
  rcases this with rfl|rfl
  ·rw[show f i 0=_ from e0];exact DLe.refl _
  ·rw[show f i 1=_ from e1];exact DLe.refl _)
 exact⟨l,hl⟩
abbrev AfP:List Sh:=[.int .i64,.int .i64,.int .i64,.int .i64]
theorem Aft {d:D} (h:Dx (.sl AfP) d):∃l:List Si,DLe d (sis l):=by
 unfold Dx at h;obtain⟨n,f,rfl,_,hf⟩:=h;obtain⟨l,_,_,hl⟩:=Xu Si.enc (fun _=>True) (n:=n) (sz:=4) (f:=f) (fun i hi=>by
  have:=hf i hi;simp only[Is] at this;obtain⟨h0,h1,h2,h3,_⟩:=this;obtain⟨a0,e0,w0⟩:∃n,f i 0=.int .i64 n/\(Lit.int .i64 n).wf=true:=by unfold Dx at h0;exact h0
  obtain⟨a1,e1,w1⟩:∃n,f i 1=.int .i64 n/\(Lit.int .i64 n).wf=true:=by unfold Dx at h1;exact h1
  obtain⟨a2,e2,w2⟩:∃n,f i 2=.int .i64 n/\(Lit.int .i64 n).wf=true:=by unfold Dx at h2;exact h2
  obtain⟨a3,e3,w3⟩:∃n,f i 3=.int .i64 n/\(Lit.int .i64 n).wf=true:=by unfold Dx at h3;exact h3
  refine⟨⟨a0,a1,a2,a3⟩,trivial,fun j hj=>?_⟩;have:j=0\/j=1\/j=2\/j=3:=by omega
  rcases this with rfl|rfl|rfl|rfl
  ·rw[show f i 0=_ from e0];exact DLe.refl _
  ·rw[show f i 1=_ from e1];exact DLe.refl _
  ·rw[show f i 2=_ from e2];exact DLe.refl _
  ·rw[show f i 3=_ from e3];exact DLe.refl _)
 exact⟨l,hl⟩
theorem YU {d:D} (h:Dx (.int .i64) d):∃n,d=.int .i64 n:=by
 unfold Dx at h;obtain⟨n,e,_⟩:=h;exact⟨n,e⟩
abbrev AfS:List Sh:=[.int .i64,.int .i64,.sl AeG,.int .i64,.sl AfQ,.sl AfU,.sl AfO,.int .i64,.int .i64,.int .i64,.int .i64,.int .i64,.int .i64,.int .i64,.int .i64,.int .i64,.int .i64,.int .i64,.int .i64,.int .i64,.sl AfR,.int .i64]
abbrev AfN:List Sh:=[.int .i64,.int .i64,.sl AeG]
theorem Afm {d:D} (h:Dx (.sl AfN) d):∃l:List Tb,DLe d (tbs l):=by
 unfold Dx at h;obtain⟨n,f,rfl,_,hf⟩:=h;obtain⟨l,_,_,hl⟩:=Xu Tb.enc (fun _=>True) (n:=n) (sz:=3) (f:=f) (fun i hi=>by
  have:=hf i hi;simp only[Is] at this;obtain⟨h0,h1,h2,_⟩:=this;obtain⟨a0,e0⟩:=YU h0;obtain⟨a1,e1⟩:=YU h1;obtain⟨a2,e2⟩:=Ab3 h2;refine⟨⟨a0,a1,a2⟩,trivial,fun j hj=>?_⟩;have:j=0\/j=1\/j=2:=by omega
  rcases this with rfl|rfl|rfl
  ·rw[show f i 0=_ from e0];exact DLe.refl _
  ·rw[show f i 1=_ from e1];exact DLe.refl _
  ·exact e2)
 exact⟨l,hl⟩
abbrev Agf:List Sh:=[.sl AfS,.int .i64,.int .i64,.sl AfV]
end Go.Proofs.M
namespace Go.Proofs.YtdlcbilgemnomaaGreat
set_option maxRecDepth 100000
theorem Tryz.own:ownKnob Tryz.prog.godebug=none:=by kernel_rfl
theorem Tryz.laidOut:laidOutB Tryz.prog=true:=by kernel_rfl
theorem J.maps:mapsRowed Tryz.checked.prog=true:=by kernel_rfl
theorem J.stops:(Tryz.checked.prog.stops == [])=true:=by kernel_rfl
theorem J.stopKnobs:(Tryz.checked.prog.stopKnobs == [])=true:=by kernel_rfl
theorem J.keys:(Rows.meshPartsRow.plainKeys == Tryz.checked.prog.plainKeys)=true:=by kernel_rfl
theorem J.heard:Tryz.checked.prog.stopsHeard=true:=by kernel_rfl
theorem J.enter:Tryz.checked.prog.mayEnter=true:=by kernel_rfl
theorem J.lift:(Rows.meshPartsRow.lifted == Tryz.checked.prog.liftsFinal)=true:=by kernel_rfl
theorem J.make:(Tryz.checked.prog.make == some Rows.meshPartsRow.make)=true:=by kernel_rfl
end Go.Proofs.YtdlcbilgemnomaaGreat
end
section
namespace Go.Proofs.P
open Go Go.Sx
set_option maxRecDepth 4000
attribute [local irreducible] VR VC thenQ blockQ retL

theorem HZ {a b:List Nb} (hl:a.length=b.length) (h:∀i,i<a.length->a.getD i default=b.getD i default):a=b:=by
 apply List.ext_getElem hl
 intro i h1 h2;have:=h i h1;simpa [Agi,h1,h2] using this


end Go.Proofs.P
end
section
namespace Go.Proofs.M
open Go Go.Sx Go.Proofs Go.Proofs.T Go.Proofs.Q
open Go.Proofs.P (Nb nbs Rk rkA rkErr checkNb hearM countM forgetM select')
set_option maxRecDepth 4000
attribute [local irreducible] VR VC thenQ blockQ retL
def AfB (loads:List Ld) (sil:List Si):Bool:=(decide (loads.length<=60)||(decide (1024<loads.length)&&decide (loads.length<=1028)))&&(decide (sil.length<=60)||(decide (1024<sil.length)&&decide (sil.length<=1028)))
theorem Adq (loads:List Ld) (sil:List Si):FnS Tryz.prog 12 [AD (lds loads),AD (sis sil)] [] (AB (AfB loads sil)) []:=by
 refine fb Tryz.func12 (by kernel_rfl) rfl Tryz.ntmps12 Tryz.results12 rfl rfl rfl rfl fun E hS=>?_
 repeat'(first|refine sB ?_|refine Ak rfl (by exact tt0) ?_|(refine Ax rfl ?_ ?_<;>intro h<;>have hq:=h<;>(try simp only[hqs] at hq))|fail)
 all_goals refine Aw Ab rfl ?_
 all_goals unfold AfB
 all_goals(first|(simp_all;done)|(simp_all;omega)|(rw[Bool.eq_iff_iff];simp_all;omega))
end Go.Proofs.M
end
section
namespace Go.Proofs.M
open Go Go.Sx Go.Proofs Go.Proofs.T Go.Proofs.Q
set_option maxRecDepth 4000
attribute [local irreducible] VR VC thenQ blockQ retL
theorem Aaf {x:Me} {j:Int} {loads:List Ld} {sil:List Si} (hm:BX x=0) (hl:loads.length<=1024) (hsl:sil.length<=1024) (hj:0<=j/\j<=4096) (hx:x.slot+j<=16384):SU x j loads sil=(runN loads sil j.toNat x,0):=by
 have h0:Da x loads sil=0:=by
  unfold Da;rw[AgY (fun hn=>hn hm),AgY (by omega)]
 unfold SU;rw[AgY (fun hn=>hn h0),AgY (by omega),AgY (by omega)]
theorem AdX {x:Me} {loads:List Ld} {sil:List Si} (hm:BX x=0) (hl:loads.length<=1024) (hsl:sil.length<=1024) (hx:x.slot<16384):SO x loads sil=(Cz x loads sil,0):=by
 have h0:Da x loads sil=0:=by
  unfold Da;rw[AgY (fun hn=>hn hm),AgY (by omega)]
 unfold SO;rw[AgY (fun hn=>hn h0),AgY (by omega)]
theorem Rm {x:Me} {j:Int} {loads:List Ld} {sil:List Si} (hm:BX x=0) (hl:loads.length<=1024) (hsl:sil.length<=1024) (hj:0<=j/\j<=4096) (hx:x.slot+j<=16384):
  FnS Tryz.prog 23 [meA x,AI j,AD (lds loads),AD (sis sil)] [] (.tup [meA (runN loads sil j.toNat x),AI 0]) []:=by
 have:=Od x j loads sil
 rwa [Aaf hm hl hsl hj hx] at this
end Go.Proofs.M
end
