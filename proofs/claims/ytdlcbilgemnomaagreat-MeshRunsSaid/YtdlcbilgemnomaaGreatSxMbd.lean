/-
  Functions' results, and laws on them. No condition.
-/
import Derived.Test.YtdlcbilgemnomaaGreatSxMbc
import Derived.Test.YtdlcbilgemnomaaGreatSxMay
set_option linter.unusedSimpArgs false
set_option linter.unusedVariables false
set_option maxHeartbeats 16000000
open Go.Proofs.Tryz
namespace Go.Proofs.M
open Go Go.Sx Go.Proofs Go.Proofs.T Go.Proofs.Q
set_option maxRecDepth 4000
attribute [local irreducible] VR VC thenQ blockQ retL
theorem Tc (m:Me) (loads:List Ld) (sil:List Si):Ak 35 [meA m,AD (lds loads),AD (sis sil)] (.tup [meA (LS m loads sil).1,AI (LS m loads sil).2]):=by
 have hck:=EV m;refine Ao func35 ntmps35 results35 fun E hS=>?_
 refine AG ?_;by_cases h1:B6 m=0
 ·have d1:decide (B6 m≠0)=false:=Ajv (fun hn=>hn h1);by_cases h2:1024<loads.length\/1024<sil.length
  ·have hE:C0 m loads sil=8:=by unfold C0;rw[Akb (fun hn=>hn h1),Akc h2]
   rw[show LS m loads sil=(noM,8) from by unfold LS;rw[hE];rfl]
   repeat'(first|refine Ad ?_|refine Aa (hck) ?_|(refine Av ?_ ?_<;>intro h hq)|fail)
   all_goals try (exfalso;omega)
   all_goals
    exact Ag (Al (l:=[(6,.c (.ptr 6 0)),(7,AI 8)]) (b:=[(6,.box noM.cs)])) Aj
  ·have d2:=Cc (1024<(loads.length:Int));have d3:=Cc (1024<(sil.length:Int));have hE:C0 m loads sil=0:=by unfold C0;rw[Akb (fun hn=>hn h1),Akb h2]
   have e0:LS m loads sil=if 16384<=m.slot then(noM,21) else(ID m loads sil,0):=Akb (fun hn=>hn hE)
   rw[e0];by_cases h3:16384<=m.slot
   ·have d4:=Aju h3;rw[Akc h3]
    repeat'(first|refine Ad ?_|refine Aa (hck) ?_|fail)
    exact Ag (Al (l:=[(6,.c (.ptr 6 0)),(7,AI 21)]) (b:=[(6,.box noM.cs)])) Aj
   ·have d4:=Ajv h3;have hst:=NX m loads sil h1 (by omega);rw[Akb h3];generalize ID m loads sil=N at *
    repeat'(first|refine Ad ?_|refine Aa (hck) ?_|refine Aa (hst) ?_|fail)
    exact Ag (Al (l:=[(6,.c (.ptr 6 0)),(7,AI 0)]) (b:=[(6,.box N.cs)])) Aj
 ·have d1:decide (B6 m≠0)=true:=Aju h1;have hE:C0 m loads sil=1:=Akc h1;rw[show LS m loads sil=(noM,1) from by unfold LS;rw[hE];rfl]
  repeat'(first|refine Ad ?_|refine Aa (hck) ?_|fail)
  exact Ag (Al (l:=[(6,.c (.ptr 6 0)),(7,AI 1)]) (b:=[(6,.box noM.cs)])) Aj
theorem Wf (m:Me) (BK:Int) (loads:List Ld) (sil:List Si):Ak 24 [meA m,AI BK,AD (lds loads),AD (sis sil)] (.tup [meA (PX m BK loads sil).1,AI (PX m BK loads sil).2]):=by
 have hck:=EV m;refine Ao func24 ntmps24 results24 fun E hS=>?_
 refine AG ?_;by_cases h1:B6 m=0
 ·have d1:decide (B6 m≠0)=false:=Ajv (fun hn=>hn h1);by_cases h2:1024<loads.length\/1024<sil.length
  ·have hE:C0 m loads sil=8:=by unfold C0;rw[Akb (fun hn=>hn h1),Akc h2]
   rw[show PX m BK loads sil=(noM,8) from by unfold PX;rw[hE];rfl]
   repeat'(first|refine Af ?_|refine Aa (hck) ?_|(refine Av ?_ ?_<;>intro h hq)|fail)
   all_goals try (exfalso;omega)
   all_goals
    exact Ag (Al (l:=[(8,.c (.ptr 8 0)),(9,AI 8)]) (b:=[(8,.box noM.cs)])) Aj
  ·have d2:=Cc (1024<(loads.length:Int));have d3:=Cc (1024<(sil.length:Int));have hE:C0 m loads sil=0:=by unfold C0;rw[Akb (fun hn=>hn h1),Akb h2]
   have e0:PX m BK loads sil=if BK<0\/4096<BK then(noM,2) else if 16384<m.slot+BK then(noM,21) else(runN loads sil BK.toNat m,0):=Akb (fun hn=>hn hE)
   rw[e0];by_cases h3:BK<0\/4096<BK
   ·rw[Akc h3]
    repeat'(first|refine Af ?_|refine Aa (hck) ?_|(refine Av ?_ ?_<;>intro h hq)|fail)
    all_goals try (exfalso;omega)
    all_goals
     exact Ag (Al (l:=[(8,.c (.ptr 8 0)),(9,AI 2)]) (b:=[(8,.box noM.cs)])) Aj
   ·have d4:=Cc (BK<0);have d5:=Cc (4096<BK);have hh:=(DG.1 h1).1;have hs1:=hh.s1;have hs2:=hh.s2;rw[Akb h3];by_cases h4:16384<m.slot+BK
    ·have d6:=Aju h4;rw[Akc h4]
     repeat'(first|refine Ad ?_|refine Aa (hck) ?_|fail)
     exact Ag (Al (l:=[(8,.c (.ptr 8 0)),(9,AI 21)]) (b:=[(8,.box noM.cs)])) Aj
    ·have d6:=Ajv h4;rw[Akb h4]
     repeat'(first|refine Af ?_|refine Aa (hck) ?_|fail)
     refine Ax (ι:=Nat) (fun k=>AN [(1,AI BK),(2,AD (lds loads)),(3,AD (sis sil)),(4,.c (.ptr 4 0)),(8,.c (.ptr 8 0)),(10,AI k)] [(4,.box (runN loads sil k m).cs),(8,.box noM.cs)]) (fun k=>(k:Int)<=BK) (fun k=>BK.toNat-k) 0 (by omega) ?_ ?_
     ·rw[show runN loads sil 0 m=m from rfl];exact Al
     ·intro k hk;by_cases hc:(k:Int)<BK
      ·have hd:=Aju hc;have hck2:=(L4 (loads:=loads) (sil:=sil) h1 k (by omega)).1;have hst:=NX (runN loads sil k m) loads sil hck2 (by omega);have e:runN loads sil (k+1) m=ID (runN loads sil k m) loads sil:=rfl;rw[<-e] at hst;generalize runN loads sil k m=N at *;generalize hN2:runN loads sil (k+1) m=N2 at *
       repeat'(first|refine Af ?_|refine Aa (hst) ?_|fail)
       refine BU (k+1) ?_;rw[hN2];exact Al
      ·have hd:=Ajv hc;rw[show BK.toNat=k by omega];generalize runN loads sil k m=N at *
       repeat'(first|refine Ad ?_|fail)
       exact Ag (Al (l:=[(8,.c (.ptr 8 0)),(9,AI 0)]) (b:=[(8,.box N.cs)])) Aj
 ·have d1:decide (B6 m≠0)=true:=Aju h1;have hE:C0 m loads sil=1:=Akc h1;rw[show PX m BK loads sil=(noM,1) from by unfold PX;rw[hE];rfl]
  repeat'(first|refine Ad ?_|refine Aa (hck) ?_|fail)
  exact Ag (Al (l:=[(8,.c (.ptr 8 0)),(9,AI 1)]) (b:=[(8,.box noM.cs)])) Aj
end Go.Proofs.M
