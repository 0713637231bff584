/-
  Functions' results, and laws on them. No condition.
-/
import Derived.Test.YtdlcbilgemnomaaGreatSxMaq
set_option linter.unusedSimpArgs false
set_option linter.unusedVariables false
set_option maxHeartbeats 16000000
open Go.Proofs.Tryz
namespace Go.Proofs
open Go Go.Sx Go.Proofs.T Go.Proofs.Q
set_option maxRecDepth 4000
attribute [local irreducible] VR VC thenQ blockQ retL
theorem OY (h:Hd):Ak 84 [hdA h,hdA h] (AB true):=by
 have d0:∀a:Int,decide (a≠a)=false:=fun a=>by simp
 have d1:=d0 h.BR;have d2:=d0 h.frame;have d3:=d0 h.til;have d4:=d0 (h.AH.length:Nat);have d5:decide (h.data≠h.data)=false:=by simp
 refine Ao func84 ntmps84 results84 fun E hS=>?_
 repeat'(first|refine Af ?_|refine P8 (gk rfl) rfl rfl rfl rfl ?_|fail)
 all_goals first
  |(exfalso;simp_all;done)
  |skip
 refine DJ (nm:=2) (j:=4) (n:=h.AH.length) rfl rfl fun hbl=>?_
 refine Er h.AH.length (fun k=>AN [(2,.c (.ptr 2 0)),(3,.c (.ptr 3 0)),(5,AI k)] [(2,.box h.cs),(3,.box h.cs)]) ?_ ?_
 ·exact Al
 ·intro k hk;have d6:=d0 (h.AH.getD k default);rcases Akf k h.AH.length with hlt|hge
  ·have dlt:=Cz k h.AH.length
   repeat'(first|refine Af ?_|fail)
   refine BU (k+1) ?_;exact Al
  ·have dlt:=CM k h.AH.length
   repeat'(first|refine Ad ?_|fail)
   exact AO
theorem sT (t:Tb):Ak 82 [tbA t,tbA t] (AB true):=by
 have:=T.HG t t
 rwa [show Ad2 t t=true from Aju ⟨rfl,rfl,rfl⟩] at this
theorem sQ (q:Qu):Ak 83 [quA q,quA q] (AB true):=by
 have:=Q.HG q q
 rwa [show Ad3 q q=true from Aju ⟨rfl,rfl⟩] at this
theorem L1 (s:Sta):Ak 50 [stA s,stA s] (AB true):=by
 have d0:∀a:Int,decide (a≠a)=false:=fun a=>by simp
 have e0:∀a:Int,decide (a=a)=true:=fun a=>by simp
 have d1:=d0 (s.held.length:Nat);have d2:=d0 (s.seen.length:Nat);have e1:=e0 s.list;have e2:=e0 s.seq;have e3:=e0 s.A6;have e4:=e0 s.tries;have e5:=e0 s.back;have e6:=e0 s.wait;have e7:=e0 s.Cq;refine Ao func50 ntmps50 results50 fun E hS=>?_
 repeat'(first|refine Af ?_|refine Aa (sT s.tb) ?_|refine Aa (sQ s.qu) ?_|fail)
 refine DJ (nm:=2) (j:=5) (n:=s.held.length) rfl rfl fun hbl=>?_
 refine DJ (nm:=2) (j:=6) (n:=s.seen.length) rfl rfl fun hbs=>?_
 refine Er s.held.length (fun k=>AN [(2,.c (.ptr 2 0)),(3,.c (.ptr 3 0)),(5,AI k)] [(2,.box s.cs),(3,.box s.cs)]) ?_ ?_
 ·exact Al
 ·intro k hk;rcases Akf k s.held.length with hlt|hge
  ·have dlt:=Cz k s.held.length
   repeat'(first|refine Af ?_|refine Aa (OY (s.held.getD k default)) ?_|fail)
   refine BU (k+1) ?_;exact Al
  ·have dlt:=CM k s.held.length
   repeat'(first|refine Af ?_|fail)
   refine Er s.seen.length (fun k=>AN [(2,.c (.ptr 2 0)),(3,.c (.ptr 3 0)),(6,AI k)] [(2,.box s.cs),(3,.box s.cs)]) ?_ ?_
   ·exact Al
   ·intro k hk;rcases Akf k s.seen.length with hlt|hge
    ·have dlt:=Cz k s.seen.length
     repeat'(first|refine Af ?_|refine Gc (gk rfl) rfl rfl rfl rfl rfl rfl rfl ?_|(refine Av ?_ ?_<;>intro h hq)|fail)
     ·exact absurd rfl hq
     ·refine BU (k+1) ?_;exact Al
    ·have dlt:=CM k s.seen.length
     repeat'(first|refine Ad ?_|fail)
     exact Aq Ae rfl e7.symm
def Afn (h:Hd):Bool:=decide (h.data.size<=200)&&decide (h.AH.length<=40)
def ZM (s:Sta):Bool:=Air s.tb&&AgP s.qu&&decide (s.held.length<=20)&&decide (s.seen.length<=40)&&s.held.all Afn
theorem ZL (s:Sta):Ak 38 [stA s] (AB (ZM s)):=by
 refine Ao func38 ntmps38 results38 fun E hS=>?_
 repeat'(first|refine Af ?_|refine Aa (ZK s.tb) ?_|refine Aa (Q.PB s.qu) ?_|(refine Av ?_ ?_<;>intro h hq)|fail)
 ·refine Aq Ae rfl ?_;simp only[ZM];simp_all
 ·refine Aq Ae rfl ?_;simp only[ZM];simp_all
 ·refine Aq Ae rfl ?_;rw[ZM,Ajv (p:=s.held.length<=20) (by omega)];simp
 ·refine Aq Ae rfl ?_;rw[ZM,Ajv (p:=s.seen.length<=40) (by omega)];simp
 have e:ZM s=s.held.all Afn:=by
  rw[ZM,Aju (p:=s.held.length<=20) (by omega),Aju (p:=s.seen.length<=40) (by omega)]
  simp_all
 refine Ax (ι:=Nat) (fun k=>AN [(1,.c (.ptr 1 0)),(3,AI k)] [(1,.box s.cs)]) (fun k=>k<=s.held.length/\∀i,i<k->Afn (s.held.getD i default)=true) (fun k=>s.held.length-k) 0 ⟨Ake _,fun i hi=>absurd hi (Aj9 _)⟩ ?_ ?_
 ·exact Al
 ·intro k hk;rcases Akf k s.held.length with hlt|hge
  ·have dlt:=Cz k s.held.length
   repeat'(first|refine Af ?_|(refine Av ?_ ?_<;>intro h hq)|fail)
   ·refine Aq Ae rfl ?_;rw[e,List.all_eq_false];exact⟨_,BS hlt,by rw[Afn,Ajv (p:=_<=200) (by omega)];simp⟩
   ·refine Aq Ae rfl ?_;rw[e,List.all_eq_false];exact⟨_,BS hlt,by rw[Afn,Ajv (p:=_<=40) (by omega)];simp⟩
   ·refine⟨k+1,⟨by omega,fun i hi=>?_⟩,by omega,?_⟩
    ·by_cases hik:i<k
     ·exact hk.2 i hik
     ·have:i=k:=by omega
      subst this;rw[Afn,Aju (p:=_<=200) (by omega),Aju (p:=_<=40) (by omega)];rfl
    ·exact Al
  ·have dlt:=CM k s.held.length
   repeat'(first|refine Ad ?_|fail)
   refine Aq Ae rfl ?_;rw[e,AjL];intro x hx;obtain⟨i,hi,rfl⟩:=CI hx;exact hk.2 i (by omega)
abbrev strs (l:List ByteArray):D:=Hj (fun x=>[.str x]) 1 l
abbrev Ags (p:ByteArray->Bool):List DV->DV->Prop:=fun ds r=>∃x:ByteArray,ds=[.d (.str x)]/\r=.d (.bool (p x))
end Go.Proofs
