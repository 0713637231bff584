/-
  Functions' results, and laws on them. No condition.
-/
import Derived.Test.YtdlcbilgemnomaaGreatSxMau
set_option linter.unusedSimpArgs false
set_option linter.unusedVariables false
set_option maxRecDepth 4000
set_option maxHeartbeats 16000000
open Go.Proofs.Tryz
namespace Go.Proofs.M
open Go Go.Sx Go.Proofs Go.Proofs.T Go.Proofs.Q
open Go.Proofs.P (Nb nbs Rk rkA rkErr checkNb hearM countM forgetM select')
open Go.Proofs.R (startM advM)
attribute [local irreducible] VR VC thenQ blockQ retL
def paK (m:Me) (k:Nat):List Int:=(m.nodes.take k).map fun x=>x.rk.parent
theorem U3 {m:Me} {k:Nat} (hk:k<m.nodes.length):paK m (k+1)=paK m k++[(m.nodes.getD k default).rk.parent]:=by
 unfold paK;rw[Ak5,Akl,Ajt,AjC hk];rfl
theorem YG {m:Me} {k:Nat} (hk:k<=m.nodes.length):(paK m k).length=k:=by simp[paK,hk]
theorem KJ (m:Me):Ak 18 [meA m] (AD (ints (Fq m))):=by
 have hck:=B3 m;refine Ao func18 ntmps18 results18 fun E hS=>?_
 refine AG ?_;by_cases h:B6 m=0
 ·have d1:decide (B6 m≠0)=false:=Ajv (fun hn=>hn h);obtain⟨hh,_⟩:=DG.1 h;have hn2:=hh.n2;have e:Fq m=paK m m.nodes.length:=by
   unfold Fq paK;rw[Akb (fun hn=>hn h),AkB]
  rw[e]
  repeat'(first|refine Af ?_|refine Aa (hck) ?_|fail)
  refine VC.le (le_nil (t:=3) (nm:=103) (T:=3) (sz:=1) rfl rfl) ?_;refine Er m.nodes.length (fun k=>AN [(3,.c (.row 103 (paK m k).length)),(10,AD (mns m.nodes)),(11,AI m.nodes.length),(12,AI k)] [(103,.row 3 1 (rowOf FT.enc (paK m k)))]) ?_ ?_
  ·exact Al
  ·intro k hk;have hl:=YG hk;by_cases hc:k<m.nodes.length
   ·have hd:=Cz k m.nodes.length;have hs:=U3 hc
    repeat'(first|refine Af ?_|refine Ap ?_|fail)
    refine BU (k+1) ?_;rw[hs,Ajy];exact BF (fun n=>if n=103 then 21 else n)
   ·have hd:=CM k m.nodes.length;have hkl:k=m.nodes.length:=by omega
    subst hkl
    repeat'(first|refine Ad ?_|fail)
    exact Ag (Cu (l:=[(2,AD (ints (paK m m.nodes.length)))]) (b:=[]) (fun n=>n) [103] hS) CV
 ·have d1:decide (B6 m≠0)=true:=Aju h;have e:Fq m=[]:=Akc h;rw[e]
  repeat'(first|refine Ad ?_|refine Aa (hck) ?_|fail)
  exact Ag (Al (l:=[(2,AD (ints []))]) (b:=[])) CV
def Tb.enc (t:Tb):List D:=[.int .i64 t.node,.int .i64 t.len,tcs t.cells]
abbrev tbs (l:List Tb):D:=Hj Tb.enc 3 l
def okN (t:Tb) (i:Nat):Prop:=(IG t 16 i).2=0/\(startM i).2=0
def nwN (t:Tb) (i:Nat):MN:=⟨(IG t 16 i).1,(startM i).1,[],0⟩
theorem Mt (turns:Int):∀(ts:List Tb) (j:Nat),(∀i,i<ts.length->okN (ts.getD i default) (j+i))->Aex turns ts j=some ((List.range ts.length).map fun i=>nwN (ts.getD i default) (j+i))
 |[],_,_=>rfl
 |t :: ts,j,h=>by
  have h0:=h 0 (by simp);have ih:=Mt turns ts (j+1) fun i hi=>by
   have:=h (i+1) (by simp;omega)
   rwa [show j+(i+1)=j+1+i by omega] at this
  unfold Aex;rw[Akb (fun hn=>hn.elim (fun a=>a h0.1) (fun a=>a h0.2)),ih];simp only[Akx,List.range_succ_eq_map,Akq,AkO];refine congrArg some (congrArg (List.cons _) (AkS fun i _=>?_));show nwN (ts.getD i default) (j+1+i)=nwN ((t :: ts).getD (i+1) default) (j+(i+1));rw[show j+(i+1)=j+1+i by omega];rfl
theorem HK (turns:Int):∀(ts:List Tb) (j k:Nat),k<ts.length->¬okN (ts.getD k default) (j+k)->Aex turns ts j=none
 |[],_,k,hk,_=>by cases hk
 |t :: ts,j,0,_,h=>by
  unfold Aex;rw[Akc];by_cases h1:(IG t 16 j).2=0
  ·exact .inr fun h2=>h ⟨h1,h2⟩
  ·exact .inl h1
 |t :: ts,j,k+1,hk,h=>by
  have ih:=HK turns ts (j+1) k (by simpa using hk) (by rwa [show j+1+k=j+(k+1) by omega]);unfold Aex
  split
  ·rfl
  ·rw[ih]
def nwK (ts:List Tb) (k:Nat):List MN:=(List.range k).map fun i=>nwN (ts.getD i default) i
theorem U7 (ts:List Tb) (k:Nat):nwK ts (k+1)=nwK ts k++[nwN (ts.getD k default) k]:=by
 unfold nwK;rw[AkN,Akl];rfl
theorem JF {σ:St} {f:Nat->Nat} {L:List Nat}:∀{xs:List (List C)},(∀x∈xs,x.all C.isD=true)->Bh (Bh (CW σ f L)) xs xs
 |[],_=>.nil
 |x :: xs,hd=>.cons (CWs.refl (hd x (by simp))) (JF fun y hy=>hd y (by simp[hy]))
theorem YN (ts:List Tb) (k:Nat):(nwK ts k).length=k:=by simp[nwK]
theorem Q3 (ts:List Tb) (turns:Int):Ak 13 [AD (tbs ts),AI turns] (.tup [meA (E8 ts turns).1,AI (E8 ts turns).2]):=by
 refine Ao func13 ntmps13 results13 fun E hS=>?_
 refine AG ?_;refine Bz (t:=0) rfl fun hb=>?_
 repeat'(first|refine Af ?_|fail)
 refine VC.le (Gf (bx:=6) (nm:=103) (T:=45) (sz:=22) (j:=0) rfl rfl rfl) ?_;refine Ax (ι:=Nat) (fun k=>AN [(4,.c (.ptr 4 0)),(5,AI 0),(6,.c (.ptr 6 0)),(15,AD (tbs ts)),(16,AI ts.length),(17,AI k)] [(4,.box noM.cs),(6,.box [.row 103 (nwK ts k).length,.d (.int .i64 0),.d (.int .i64 turns),.d .Df]),(103,.row 45 22 (rowOf MN.enc (nwK ts k)))])
  (fun k=>k<=ts.length/\k<=32/\∀i,i<k->okN (ts.getD i default) i) (fun k=>ts.length-k) 0 ⟨Ake _,Ake _,fun i hi=>absurd hi (Aj9 _)⟩ ?_ ?_
 ·exact Al
 ·rintro k ⟨hk,hk32,hall⟩;have hl:=YN ts k;by_cases hc:k<ts.length
  ·have hd:=Cz k ts.length;have hns:=Abs (ts.getD k default) 16 k;have hss:=R.H4 (k:Int);by_cases h1:(IG (ts.getD k default) 16 k).2=0
   ·have d1:decide ((IG (ts.getD k default) 16 k).2≠0)=false:=Ajv (fun hn=>hn h1);by_cases h2:(startM k).2=0
    ·have d2:decide ((startM k).2≠0)=false:=Ajv (fun hn=>hn h2);have h31:k<32:=by
      unfold startM at h2
      split at h2
      ·cases h2
      ·rename_i hn;unfold P.Dn P.inR at hn;simp only[Ajx,AjF,Ala,not_or] at hn;omega
     repeat'(first|refine Af ?_|refine Aa (hns) ?_|refine Aa (hss) ?_|refine Ap ?_|fail)
     refine⟨k+1,⟨by omega,by omega,fun i hi=>?_⟩,by omega,?_⟩
     ·by_cases h:i<k
      ·exact hall i h
      ·have:i=k:=by omega
       subst this;exact⟨h1,h2⟩
     ·rw[U7,Ajy];refine A0 (fun n=>if n=103 then 46 else n) ?_ ?_ rfl (by(simp only[wfL,wfs,AA,Az];rfl))
      all_goals repeat'(first|exact tt0|refine⟨⟨_,rfl,?_⟩,?_⟩|exact .c .d|exact .c (.ptr rfl)|exact .FA rfl rfl|refine .box ?_|exact .nil|refine .cons ?_ ?_|exact .d|exact .row rfl rfl|fail)
      rw[AF];exact .row (Bh.append (JF Ai) (.cons (.cons .d (.cons .d (.cons .d (.cons .d (.cons .d (.cons .d (.cons .d (.cons .d (.cons .d (.cons .d (.cons .d (.cons .d (.cons .d (.cons .d (.cons .d (.cons .d (.cons .d (.cons .d (.cons .d (.cons .d (.cons .nil (.cons .d .nil)))))))))))))))))))))) .nil))
    ·have d2:decide ((startM k).2≠0)=true:=Aju h2;have e:E8 ts turns=(noM,1):=by
      unfold E8;rw[HK turns ts 0 k hc (by rw[Ak1];exact fun h=>h2 h.2)]
     rw[e]
     repeat'(first|refine Af ?_|refine Aa (hns) ?_|refine Aa (hss) ?_|fail)
     exact Ag (Al (l:=[(4,.c (.ptr 4 0)),(5,AI 1)]) (b:=[(4,.box noM.cs)])) Aj
   ·have d1:decide ((IG (ts.getD k default) 16 k).2≠0)=true:=Aju h1;have e:E8 ts turns=(noM,1):=by
     unfold E8;rw[HK turns ts 0 k hc (by rw[Ak1];exact fun h=>h1 h.1)]
    rw[e]
    repeat'(first|refine Af ?_|refine Aa (hns) ?_|refine Aa (hss) ?_|fail)
    exact Ag (Al (l:=[(4,.c (.ptr 4 0)),(5,AI 1)]) (b:=[(4,.box noM.cs)])) Aj
  ·have hd:=CM k ts.length;have hkl:k=ts.length:=by omega
   subst hkl;have e:E8 ts turns=if B6 ⟨nwK ts ts.length,0,turns,[]⟩≠0 then(noM,1) else(⟨nwK ts ts.length,0,turns,[]⟩,0):=by
    unfold E8;rw[Mt turns ts 0 (fun i hi=>by rw[Ak1];exact hall i hi)];simp only[Ak1];rfl
   rw[e];have hck:=B3 ⟨nwK ts ts.length,0,turns,[]⟩
   repeat'(first|refine HX ?_|refine sq 11 rfl ?_|((fail_if_success (show VC _ (.region 11 _ _) _ _));refine ER ?_)|fail)
   refine VC.le (σ':=AN [(4,.c (.ptr 4 0)),(5,AI 0),(6,.c (.ptr 6 0))] [(4,.box noM.cs),(6,.box (Me.cs ⟨nwK ts ts.length,0,turns,[]⟩))]) ?_ ?_
   ·exact Cu (fun n=>n) [103] hS
   by_cases h3:B6 ⟨nwK ts ts.length,0,turns,[]⟩=0
   ·have d3:decide (B6 ⟨nwK ts ts.length,0,turns,[]⟩≠0)=false:=Ajv (fun hn=>hn h3);rw[Akb (fun hn=>hn h3)]
    repeat'(first|refine Ad ?_|refine Aa (hck) ?_|fail)
    exact Ag (Al (l:=[(4,.c (.ptr 4 0)),(5,AI 0)]) (b:=[(4,.box (Me.cs ⟨nwK ts ts.length,0,turns,[]⟩))])) Aj
   ·have d3:decide (B6 ⟨nwK ts ts.length,0,turns,[]⟩≠0)=true:=Aju h3;rw[Akc h3]
    repeat'(first|refine Ad ?_|refine Aa (hck) ?_|fail)
    exact Ag (Al (l:=[(4,.c (.ptr 4 0)),(5,AI 1)]) (b:=[(4,.box noM.cs)])) Aj
end Go.Proofs.M
namespace Go.Proofs.M
open Go Go.Sx Go.Proofs Go.Proofs.T Go.Proofs.Q
attribute [local irreducible] VR VC thenQ blockQ retL
def Rg (n i:Nat) (s:Nat):List TC:=if i+s=n then[⟨s,1,2,true,(i:Int)-1,-1⟩] else if i+s+1=n then[⟨s,1,2,false,(i:Int)+1,-1⟩] else[]
def lcK (n i:Nat):Nat->List TC
 |0=>[⟨0,0,3,false,-1,-1⟩]
 |s+1=>lcK n i s++Rg n i (s+1)
def AgD (n i:Nat):Tb:=⟨i,n,lcK n i (n-1)⟩
def MA (n k:Nat):List Tb:=(List.range k).map (AgD n)
def K0 (n:Nat):List Tb:=MA n n
theorem WL (n k:Nat):MA n (k+1)=MA n k++[AgD n k]:=by
 unfold MA;rw[AkN,Akl];rfl
theorem Y5 (n k:Nat):(MA n k).length=k:=by simp[MA]
theorem Za (n i:Nat):∀s,(lcK n i s).length<=s+1
 |0=>Akd _
 |s+1=>by
  have:=Za n i s;show(lcK n i s++Rg n i (s+1)).length<=s+2;rw[Ajy];have h:(Rg n i (s+1)).length<=1:=by
   unfold Rg
   split
   ·simp
   ·split<;>simp
  omega
theorem Y4 (n:Nat) (hn:n<=100):Ak 32 [AI (n:Int)] (AD (tbs (K0 n))):=by
 refine Ao func32 ntmps32 results32 fun E hS=>?_
 refine AG ?_
 repeat'(first|refine Af ?_|fail)
 refine VC.le (le_nil (t:=3) (nm:=103) (T:=33) (sz:=3) rfl rfl) ?_;refine Er n (fun k=>AN [(0,AI n),(3,.c (.row 103 (MA n k).length)),(8,AI n),(9,AI k)] [(103,.row 33 3 (rowOf Tb.enc (MA n k)))]) ?_ ?_
 ·exact Al
 ·intro k hk;have hl:=Y5 n k;by_cases hc:k<n
  ·have hd:=Cz k n
   repeat'(first|refine Af ?_|fail)
   refine Ax (ι:=Nat) (fun s=>AN [(0,AI n),(3,.c (.row 103 (MA n k).length)),(8,AI n),(9,AI k),(4,AI k),(5,.c (.ptr 5 0)),(6,AI ((s+1:Nat):Int))] [(103,.row 33 3 (rowOf Tb.enc (MA n k))),(5,.box [.d (.int .i64 k),.d (.int .i64 n),.row 104 (lcK n k s).length]),(104,.row 107 6 (rowOf TC.enc (lcK n k s)))])
    (fun s=>s+1<=n) (fun s=>n-s) 0 (by omega) ?_ ?_
   ·exact BF (fun n=>if n=104 then 15 else n)
   ·intro s hs;have hcl:=Za n k s;by_cases hc2:s+1<n
    ·have hd2:=Es (((s+1:Nat):Int)<(n:Int));have e:lcK n k (s+1)=lcK n k s++Rg n k (s+1):=rfl;by_cases e1:k+(s+1)=n
     ·have d1:=Es ((k:Int)=(n:Int)-((s+1:Nat):Int));unfold Rg at e;rw[Akc e1] at e
      repeat'(first|refine Af ?_|refine Ap ?_|fail)
      refine BU (s+1) ?_;rw[e,Ajy];exact BF (fun n=>if n=104 then 47 else n)
     ·have d1:=Cc ((k:Int)=(n:Int)-((s+1:Nat):Int));by_cases e2:k+(s+1)+1=n
      ·have d2:=Es ((k:Int)=(n:Int)-((s+1:Nat):Int)-1);unfold Rg at e;rw[Akb e1,Akc e2] at e
       repeat'(first|refine Af ?_|refine Ap ?_|fail)
       refine BU (s+1) ?_;rw[e,Ajy];exact BF (fun n=>if n=104 then 47 else n)
      ·have d2:=Cc ((k:Int)=(n:Int)-((s+1:Nat):Int)-1);unfold Rg at e;rw[Akb e1,Akb e2,AjQ] at e
       repeat'(first|refine Af ?_|refine Aee rfl ?_|fail)
       refine BU (s+1) ?_;rw[e];exact Al
    ·have hd2:=Cc (((s+1:Nat):Int)<(n:Int));have hs1:s=n-1:=by omega
     repeat'(first|refine Ad ?_|refine Ap ?_|fail)
     refine BU (k+1) ?_;rw[WL,Ajy];refine DL (fun n=>if n=103 then 52 else n) [104] hS ?_ ?_ rfl (by(simp only[wfL,wfs,AA,Az];rfl))
     all_goals repeat'(first|exact tt0|refine⟨⟨_,rfl,?_⟩,?_⟩|exact .c .d|exact .c (.row rfl rfl)|fail)
     rw[AF];refine .row (Bh.append (JF Ai) (.cons (.cons .d (.cons .d (.cons ?_ .nil))) .nil));show CW _ _ _ _ (C.d (tcs (lcK n k (n-1))));rw[<-hs1];exact .Bm (by simp) rfl rfl (fun _=>rfl)
  ·have hd:=CM k n;have hkl:k=n:=by omega
   subst hkl
   repeat'(first|refine Ad ?_|fail)
   exact Ag (Cu (l:=[(2,AD (tbs (MA k k)))]) (b:=[]) (fun n=>n) [103] hS) CV
end Go.Proofs.M
namespace Go.Proofs.M
open Go Go.Sx Go.Proofs Go.Proofs.T Go.Proofs.Q
open Go.Proofs.P (Nb nbs Rk rkA rkErr checkNb hearM countM forgetM select')
open Go.Proofs.R (startM advM)
attribute [local irreducible] VR VC thenQ blockQ retL
theorem Qz (a b:List Sp):Ak 46 [AD (sps a),AD (sps b)] (AB (decide (a=b))):=by
 refine Ao func46 ntmps46 results46 fun E hS=>?_
 refine Bz (t:=0) rfl fun hb=>?_
 repeat'(first|refine Af ?_|(refine Av ?_ ?_<;>intro h hq)|fail)
 ·refine Aq Ae rfl ?_;have:a≠b:=fun e=>by subst e;simp_all
  simp[this]
 ·refine Ax (ι:=Nat) (fun k=>AN [(0,AD (sps a)),(1,AD (sps b)),(5,AI k)] []) (fun k=>k<=a.length/\∀i,i<k->a.getD i default=b.getD i default) (fun k=>a.length-k) 0 ⟨Ake _,fun i hi=>absurd hi (Aj9 _)⟩ ?_ ?_
  ·exact By ⟨rfl,rfl,rfl,tt0⟩ trivial rfl
  ·rintro k ⟨hk,hall⟩
   repeat'(first|refine Af ?_|refine Gc (gk rfl) rfl rfl rfl rfl rfl rfl rfl ?_|(refine Av ?_ ?_<;>intro h hq)|fail)
   ·refine Aq Ae rfl ?_;have:a≠b:=fun e=>hq (by rw[e])
    simp[this]
   ·refine⟨k+1,⟨by omega,fun i hi=>?_⟩,by omega,By ⟨rfl,rfl,rfl,tt0⟩ trivial rfl⟩;by_cases hik:i<k
    ·exact hall i hik
    ·have:i=k:=by omega
     subst this;exact Agi hq
   ·refine Aq Ae rfl ?_;have:a=b:=Go.Sx.EX (by omega) fun i hi=>hall i (by omega)
    simp[this]
theorem F5 (t:Tb) (hl:t.cells.length<=100000):Ak 47 [tbA t] (AD (sps (FE t))):=by
 refine Ao func47 ntmps47 results47 fun E hS=>?_
 refine AG ?_
 repeat'(first|refine Af ?_|fail)
 refine VC.le (le_nil (t:=3) (nm:=103) (T:=115) (sz:=2) rfl rfl) ?_;refine Er t.cells.length (fun k=>AN [(1,.c (.ptr 1 0)),(3,.c (.row 103 (spK t k).length)),(4,AI k)] [(1,.box t.cs),(103,.row 115 2 (rowOf Sp.enc (spK t k)))]) ?_ ?_
 ·exact Al
 ·intro k hk;have hkl:=X5 t k;by_cases hc:k<t.cells.length
  ·have hd:=Cz k t.cells.length;have hs:=UK hc;by_cases h3:(t.cells.getD k default).kind=3
   ·have d3:=Aju h3;rw[Akc h3] at hs
    repeat'(first|refine Af ?_|refine Ap ?_|fail)
    refine BU (k+1) ?_;rw[hs,Ajy];exact BF (fun n=>if n=103 then 34 else n)
   ·have d3:=Ajv h3;rw[Akb h3] at hs
    repeat'(first|refine Af ?_|fail)
    refine BU (k+1) ?_;rw[hs];exact Al
  ·have hd:=CM k t.cells.length;have hkl:k=t.cells.length:=by omega
   subst hkl;rw[<-X6]
   repeat'(first|refine Ad ?_|fail)
   exact Ag (Cu (l:=[(2,AD (sps (spK t t.cells.length)))]) (b:=[]) (fun n=>n) [103] hS) CV
theorem Aie {l:List Nb} {p:Nb->Prop} (h:∀i,i<l.length->p (l.getD i default)):∀y∈l,p y:=fun y hy=>by
 obtain⟨i,hi,rfl⟩:=CI hy;exact h i hi
theorem EV (m:Me):Ak 16 [meA m] (AI (B6 m)):=by
 have hst:∀i,AU (m.nodes.getD i default).st=0->(m.nodes.getD i default).st.tb.cells.length<=100000:=fun i h=>by
  have:=(B4 (Ba h).1).1;omega
 refine Ao func16 ntmps16 results16 fun E hS=>?_
 repeat'(first|refine Af ?_|(refine Av ?_ ?_<;>intro h hq)|fail)
 all_goals first
  |(refine Aw Ae rfl ?_;exact Akc (by omega))
  |skip
 have e:B6 m=if(List.range m.nodes.length).any (fun i=>!D4 m i) then 1 else 0:=Akb (by omega)
 rw[e];refine Ax (ι:=Nat) (fun k=>AN [(1,.c (.ptr 1 0)),(3,AI m.nodes.length),(4,AI k)] [(1,.box m.cs)]) (fun k=>k<=m.nodes.length/\∀i,i<k->D4 m i=true) (fun k=>m.nodes.length-k) 0 ⟨Ake _,fun i hi=>absurd hi (Aj9 _)⟩ ?_ ?_
 ·exact Al
 ·rintro k ⟨hk,hall⟩;by_cases hc:k<m.nodes.length
  ·have hd:=Cz k m.nodes.length;have h00:0<m.nodes.length:=by omega
   have hl0:AU (m.nodes.getD k default).st=0->(m.nodes.getD 0 default).st.tb.cells.length<=100000:=fun h=>by
    rcases Ak9 k with h0|h0
    ·subst h0;exact hst 0 h
    ·exact NY (hall 0 h0)
   have hl1:=hst k;have hiff:=H6 (m:=m) (i:=k);have hnext:D4 m k=true->∀i,i<k+1->D4 m i=true:=fun hr i hi=>by
    by_cases h:i<k
    ·exact hall i h
    ·have:i=k:=by omega
     subst this;exact hr
   have hbad:¬D4 m k=true->(if(List.range m.nodes.length).any (fun i=>!D4 m i)=true then(1:Int) else 0)=1:=fun h=>Akc (AjM.2 ⟨k,Aj2.2 hc,by rw[Bool.eq_false_iff.2 h];rfl⟩)
   clear hall hst e;generalize (if(List.range m.nodes.length).any (fun i=>!D4 m i)=true then(1:Int) else 0)=res at *;generalize hx:m.nodes.getD k default=x at *;have c1:=GX x.st;have c2:=P.Db x.rk;have c3:=P.CQ x.nb;have c7:=Qz (FE x.st.tb) (FE (m.nodes.getD 0 default).st.tb)
   repeat'(first|refine AJ ?_|refine sq 8 rfl ?_|refine BN ?_|fail)
   refine VC.le (σ':=AN [(1,.c (.ptr 1 0)),(3,AI m.nodes.length),(4,AI k),(5,.c (.ptr 5 0))] [(1,.box m.cs),(5,.box x.cs)]) ?_ ?_
   ·rw[<-hx];exact Al
   by_cases hR:D4 m k=true
   ·have r:=hiff.1 hR;have hnx:=hnext hR;have c5:=F5 (m.nodes.getD 0 default).st.tb (hl0 r.st);have c6:=F5 x.st.tb (hl1 r.st);rw[Aju r.sp] at c7;rw[r.st] at c1;rw[r.rk] at c2;rw[r.nb] at c3;have r1:=r.nd;have r2:=r.len;have r3:=r.rn;have r4:=r.rp;have r5:=r.nx;have r6:=r.nn;have r8:=(P.Bu r.nb).1;clear hiff hbad hnext hl0 hl1 r;have f1:decide (x.st.tb.node≠(k:Int))=false:=Ajv (fun hn=>hn r1);have f2:decide (x.st.tb.len≠(m.nodes.getD 0 default).st.tb.len)=false:=Ajv (fun hn=>hn r2);have f3:decide (x.rk.node≠(k:Int))=false:=Ajv (fun hn=>hn r3);have f4:=Cc ((m.nodes.length:Int)<=x.rk.parent);have f5:=Cc (x.next<0);have f6:=Cc (65535<x.next)
    repeat'(first|refine Af ?_|refine Aa (c1) ?_|refine Aa (c5) ?_|refine Aa (c6) ?_|refine Aa (c7) ?_|refine Aa (c2) ?_|refine Aa (c3) ?_|fail)
    refine Er x.nb.length (fun j=>AN [(1,.c (.ptr 1 0)),(3,AI m.nodes.length),(4,AI k),(5,.c (.ptr 5 0)),(6,AI j)] [(1,.box m.cs),(5,.box x.cs)]) ?_ ?_
    ·exact Al
    ·intro j hj;by_cases hc2:j<x.nb.length
     ·have hd2:=Cz j x.nb.length;have g1:decide ((m.nodes.length:Int)<=(x.nb.getD j default).node)=false:=Ajv (by have:=r6 _ (BS hc2);omega)
      repeat'(first|refine Af ?_|fail)
      refine BU (j+1) ?_;exact Al
     ·have hd2:=CM j x.nb.length
      repeat'(first|refine Ad ?_|fail)
      refine⟨k+1,⟨by omega,hnx⟩,by omega,?_⟩;exact Al
   ·have hr1:=hbad hR;subst hr1;by_cases hck:AU x.st=0
    ·have d1:decide (AU x.st≠0)=false:=Ajv (fun h=>h hck);have c5:=F5 (m.nodes.getD 0 default).st.tb (hl0 hck);have c6:=F5 x.st.tb (hl1 hck);clear hl0 hl1 hnext hbad;by_cases q1:x.st.tb.node=(k:Int)
     ·have f1:decide (x.st.tb.node≠(k:Int))=false:=Ajv (fun hn=>hn q1);by_cases q2:x.st.tb.len=(m.nodes.getD 0 default).st.tb.len
      ·have f2:decide (x.st.tb.len≠(m.nodes.getD 0 default).st.tb.len)=false:=Ajv (fun hn=>hn q2);by_cases q3:FE x.st.tb=FE (m.nodes.getD 0 default).st.tb
       ·rw[Aju q3] at c7
        repeat'(first|refine AJ ?_|refine Aa (c1) ?_|refine Aa (c5) ?_|refine Aa (c6) ?_|refine Aa (c7) ?_|refine sq 10 rfl ?_|fail)
        refine Gi [(1,.c (.ptr 1 0)),(3,AI m.nodes.length),(4,AI k),(5,.c (.ptr 5 0))] [(1,.box m.cs),(5,.box x.cs)] ?_;by_cases q4:rkErr x.rk=0
        ·rw[q4] at c2;by_cases q5:x.rk.node=(k:Int)
         ·have f3:decide (x.rk.node≠(k:Int))=false:=Ajv (fun hn=>hn q5);by_cases q6:x.rk.parent<m.nodes.length
          ·have f4:=Cc ((m.nodes.length:Int)<=x.rk.parent);by_cases q7:checkNb x.nb=0
           ·have r8:=(P.Bu q7).1;rw[q7] at c3;by_cases q8:0<=x.next/\x.next<=65535
            ·have f5:=Cc (x.next<0);have f6:=Cc (65535<x.next);have hnn:¬∀y∈x.nb,y.node<m.nodes.length:=fun h=>hR (hiff.2 ⟨hck,q1,q2,q3,q4,q5,q6,q7,h,q8⟩)
             repeat'(first|refine Af ?_|refine Aa (c2) ?_|refine Aa (c3) ?_|fail)
             refine Ax (ι:=Nat) (fun j=>AN [(1,.c (.ptr 1 0)),(3,AI m.nodes.length),(4,AI k),(5,.c (.ptr 5 0)),(6,AI j)] [(1,.box m.cs),(5,.box x.cs)]) (fun j=>j<=x.nb.length/\∀i,i<j->(x.nb.getD i default).node<m.nodes.length) (fun j=>x.nb.length-j) 0 ⟨Ake _,fun i hi=>absurd hi (Aj9 _)⟩ ?_ ?_
             ·exact Al
             ·rintro j ⟨hj,hja⟩;by_cases hc2:j<x.nb.length
              ·have hd2:=Cz j x.nb.length;by_cases q9:(x.nb.getD j default).node<m.nodes.length
               ·have g1:=Cc ((m.nodes.length:Int)<=(x.nb.getD j default).node)
                repeat'(first|refine Af ?_|fail)
                refine⟨j+1,⟨by omega,fun i hi=>?_⟩,by omega,?_⟩
                ·by_cases h:i<j
                 ·exact hja i h
                 ·have:i=j:=by omega
                  subst this;exact q9
                ·exact Al
               ·have g1:=Es ((m.nodes.length:Int)<=(x.nb.getD j default).node)
                repeat'(first|refine Af ?_|fail)
                exact AZ
              ·exact absurd (Aie fun i hi=>hja i (by omega)) hnn
            ·by_cases q9:x.next<0
             ·have f5:=Aju q9
              repeat'(first|refine Ad ?_|refine Aa (c2) ?_|refine Aa (c3) ?_|fail)
              exact AZ
             ·have f5:=Ajv q9;have f6:=Es (65535<x.next)
              repeat'(first|refine Ad ?_|refine Aa (c2) ?_|refine Aa (c3) ?_|fail)
              exact AZ
           ·have f5:decide (checkNb x.nb≠0)=true:=Aju q7
            repeat'(first|refine Ad ?_|refine Aa (c2) ?_|refine Aa (c3) ?_|fail)
            exact AZ
          ·have f4:=Es ((m.nodes.length:Int)<=x.rk.parent)
           repeat'(first|refine Ad ?_|refine Aa (c2) ?_|fail)
           exact AZ
         ·have f3:decide (x.rk.node≠(k:Int))=true:=Aju q5
          repeat'(first|refine Ad ?_|refine Aa (c2) ?_|fail)
          exact AZ
        ·have f3:decide (rkErr x.rk≠0)=true:=Aju q4
         repeat'(first|refine Ad ?_|refine Aa (c2) ?_|fail)
         exact AZ
       ·rw[Ajv q3] at c7
        repeat'(first|refine Ad ?_|refine Aa (c1) ?_|refine Aa (c5) ?_|refine Aa (c6) ?_|refine Aa (c7) ?_|fail)
        exact AZ
      ·have f2:decide (x.st.tb.len≠(m.nodes.getD 0 default).st.tb.len)=true:=Aju q2
       repeat'(first|refine Ad ?_|refine Aa (c1) ?_|fail)
       exact AZ
     ·have f1:decide (x.st.tb.node≠(k:Int))=true:=Aju q1
      repeat'(first|refine Ad ?_|refine Aa (c1) ?_|fail)
      exact AZ
    ·have d1:decide (AU x.st≠0)=true:=Aju hck
     repeat'(first|refine Ad ?_|refine Aa (c1) ?_|fail)
     exact AZ
  ·have hd:=CM k m.nodes.length
   repeat'(first|refine Ad ?_|fail)
   refine Aw Ae rfl ?_;refine Akb fun h=>?_
   obtain⟨i,hi,h2⟩:=AjM.1 h;rw[hall i (by have:=Aj2.1 hi;omega)] at h2;cases h2
theorem Agm {l:List Si} {p:Si->Bool} {k:Nat} (hk:k<l.length) (h:p (l.getD k default)=true):l.any p=true:=AjM.2 ⟨_,BS hk,h⟩
theorem I9 (l:List Si) (a b s:Int):Ak 22 [AD (sis l),AI a,AI b,AI s] (AB (Ei l a b s)):=by
 refine Ao func22 ntmps22 results22 fun E hS=>?_
 refine Bz (t:=0) rfl fun hb=>?_
 repeat'(first|refine Af ?_|fail)
 refine Ax (ι:=Nat) (fun k=>AN [(0,AD (sis l)),(1,AI a),(2,AI b),(3,AI s),(9,AI k)] []) (fun k=>k<=l.length/\∀i,i<k->(decide ((l.getD i default).src=a)&&decide ((l.getD i default).dst=b)&&decide ((l.getD i default).first<=s)&&decide (s<(l.getD i default).til))=false) (fun k=>l.length-k) 0 ⟨Ake _,fun i hi=>absurd hi (Aj9 _)⟩ ?_ ?_
 ·exact Al
 ·rintro k ⟨hk,hall⟩;by_cases hc:k<l.length
  ·have hd:=Cz k l.length;have hmiss:(decide ((l.getD k default).src=a)&&decide ((l.getD k default).dst=b)&&decide ((l.getD k default).first<=s)&&decide (s<(l.getD k default).til))=false->∀i,i<k+1->(decide ((l.getD i default).src=a)&&decide ((l.getD i default).dst=b)&&decide ((l.getD i default).first<=s)&&decide (s<(l.getD i default).til))=false:=fun h i hi=>by
    by_cases h2:i<k
    ·exact hall i h2
    ·have:i=k:=by omega
     subst this;exact h
   clear hall;by_cases h1:(l.getD k default).src=a
   ·have d1:=Aju h1;by_cases h2:(l.getD k default).dst=b
    ·have d2:=Aju h2;by_cases h3:(l.getD k default).first<=s
     ·have d3:=Aju h3;by_cases h4:s<(l.getD k default).til
      ·have d4:=Aju h4;have e:Ei l a b s=false:=by
        unfold Ei;rw[Agm hc (by rw[d1,d2,d3,d4];rfl)];rfl
       rw[e]
       repeat'(first|refine Af ?_|fail)
       exact AO
      ·have d4:=Ajv h4;have hm:=hmiss (by rw[d1,d2,d3,d4];rfl)
       repeat'(first|refine Af ?_|fail)
       refine⟨k+1,⟨by omega,hm⟩,by omega,?_⟩;exact Al
     ·have d3:=Ajv h3;have hm:=hmiss (by rw[d1,d2,d3];rfl)
      repeat'(first|refine Af ?_|fail)
      refine⟨k+1,⟨by omega,hm⟩,by omega,?_⟩;exact Al
    ·have d2:=Ajv h2;have hm:=hmiss (by rw[d1,d2];rfl)
     repeat'(first|refine Af ?_|fail)
     refine⟨k+1,⟨by omega,hm⟩,by omega,?_⟩;exact Al
   ·have d1:=Ajv h1;have hm:=hmiss (by rw[d1];rfl)
    repeat'(first|refine Af ?_|fail)
    refine⟨k+1,⟨by omega,hm⟩,by omega,?_⟩;exact Al
  ·have hd:=CM k l.length
   repeat'(first|refine Ad ?_|fail)
   refine Aq Ae rfl ?_;have h0:(l.any fun x=>decide (x.src=a)&&decide (x.dst=b)&&decide (x.first<=s)&&decide (s<x.til))=false:=by
    rw[AjN];intro y hy;obtain⟨i,hi,rfl⟩:=CI hy;rw[hall i (by omega)];exact Aj6
   unfold Ei;rw[h0];rfl
end Go.Proofs.M
