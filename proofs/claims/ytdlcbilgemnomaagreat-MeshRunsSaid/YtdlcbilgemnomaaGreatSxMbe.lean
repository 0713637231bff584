/-
  Functions' results, and laws on them. No condition.
-/
import Derived.Test.YtdlcbilgemnomaaGreatSxMbd
set_option linter.unusedSimpArgs false
set_option linter.unusedVariables false
set_option maxHeartbeats 16000000
open Go.Proofs.Tryz
namespace Go.Proofs.M
open Go Go.Sx Go.Proofs Go.Proofs.T Go.Proofs.Q
set_option maxRecDepth 4000
attribute [local irreducible] VR VC thenQ blockQ retL
theorem AaX (m:Me) (loads:List Ld) (sil:List Si):∃(x:Me) (e:Int),Ak 34 [meA m,AD (lds loads),AD (sis sil)] (.tup [meA x,AI e])/\Ak 35 [meA m,AD (lds loads),AD (sis sil)] (.tup [meA x,AI e]):=⟨_,_,WG m loads sil,Tc m loads sil⟩
theorem Ad4 (m:Me) (BK:Int) (loads:List Ld) (sil:List Si):∃(x:Me) (e:Int),Ak 23 [meA m,AI BK,AD (lds loads),AD (sis sil)] (.tup [meA x,AI e])/\Ak 24 [meA m,AI BK,AD (lds loads),AD (sis sil)] (.tup [meA x,AI e]):=⟨_,_,Q0 m BK loads sil,Wf m BK loads sil⟩
theorem Pq (m:Me) (loads:List Ld) (sil:List Si):Ak 7 [meA m,AD (lds loads),AD (sis sil)] (AB true):=by
 have hf:=MU m;have hf2:=MV loads sil;refine Ao func7 ntmps7 results7 fun E hS=>?_
 repeat'(first|refine AJ ?_|refine Aa (KE) ?_|refine sq 3 rfl ?_|fail)
 cases h1:T9 m with
 |false=>
  have d1:(!T9 m)=true:=by rw[h1];rfl
  repeat'(first|refine Ad ?_|refine Aa (hf) ?_|fail)
  all_goals exact AO
 |true=>
  have d1:(!T9 m)=false:=by rw[h1];rfl
  cases h2:ZO loads sil with
  |false=>
   have d2:(!ZO loads sil)=true:=by rw[h2];rfl
   repeat'(first|refine Ad ?_|refine Aa (hf) ?_|refine AK [] (hf2) ?_|fail)
   all_goals exact AO
  |true=>
   have d2:(!ZO loads sil)=false:=by rw[h2];rfl
   obtain⟨X,E,hs1,hs2⟩:=AaX m loads sil;have hsm:=Kh X;have dE:decide (E=E)=true:=Aju rfl
   repeat'(first|refine AJ ?_|refine Aa (hf) ?_|refine Aa (hs1) ?_|refine AK [] (hf2) ?_|refine sq 6 rfl ?_|fail)
   refine Gi [(1,AD (lds loads)),(2,AD (sis sil)),(3,.c (.ptr 3 0)),(7,.c (.ptr 7 0)),(8,AI E)] [(3,.box m.cs),(7,.box X.cs)] ?_
   repeat'(first|refine AJ ?_|refine Aa (hs2) ?_|refine sq 7 rfl ?_|fail)
   refine Gi [(7,.c (.ptr 7 0)),(8,AI E),(9,.c (.ptr 9 0)),(10,AI E)] [(7,.box X.cs),(9,.box X.cs)] ?_
   repeat'(first|refine Ad ?_|refine Aa (hsm) ?_|fail)
   all_goals exact AO
theorem Rh (m:Me) (BK:Int) (loads:List Ld) (sil:List Si):Ak 4 [meA m,AI BK,AD (lds loads),AD (sis sil)] (AB true):=by
 have hf:=MU m;have hf2:=MV loads sil;refine Ao func4 ntmps4 results4 fun E hS=>?_
 repeat'(first|refine AJ ?_|refine Aa (KE) ?_|refine sq 3 rfl ?_|fail)
 cases h1:T9 m with
 |false=>
  have d1:(!T9 m)=true:=by rw[h1];rfl
  repeat'(first|refine Ad ?_|refine Aa (hf) ?_|fail)
  all_goals exact AO
 |true=>
  have d1:(!T9 m)=false:=by rw[h1];rfl
  cases h2:ZO loads sil with
  |false=>
   have d2:(!ZO loads sil)=true:=by rw[h2];rfl
   repeat'(first|refine Ad ?_|refine Aa (hf) ?_|refine AK [] (hf2) ?_|fail)
   all_goals exact AO
  |true=>
   have d2:(!ZO loads sil)=false:=by rw[h2];rfl
   by_cases h3:60<BK/\BK<=4096
   ·have d3:decide (60<BK)=true:=Aju h3.1;have d4:decide (BK<=4096)=true:=Aju h3.2
    repeat'(first|refine Ad ?_|refine Aa (hf) ?_|refine AK [] (hf2) ?_|fail)
    all_goals exact AO
   ·obtain⟨X,E,hs1,hs2⟩:=Ad4 m BK loads sil;have hsm:=Kh X;have dE:decide (E=E)=true:=Aju rfl;refine Et (AN [(1,AI BK),(2,AD (lds loads)),(3,AD (sis sil)),(4,.c (.ptr 4 0))] [(4,.box m.cs)]) ?_ ?_
    ·by_cases h4:60<BK
     ·have d3:=Aju h4;have d4:=Cc (BK<=4096)
      repeat'(first|refine Ad ?_|refine Aa (hf) ?_|refine AK [] (hf2) ?_|fail)
      exact Al
     ·have d3:=Ajv h4
      repeat'(first|refine Ad ?_|refine Aa (hf) ?_|refine AK [] (hf2) ?_|fail)
      exact Al
    repeat'(first|refine AJ ?_|refine Aa (hs1) ?_|refine sq 6 rfl ?_|fail)
    refine Gi [(1,AI BK),(2,AD (lds loads)),(3,AD (sis sil)),(4,.c (.ptr 4 0)),(9,.c (.ptr 9 0)),(10,AI E)] [(4,.box m.cs),(9,.box X.cs)] ?_
    repeat'(first|refine AJ ?_|refine Aa (hs2) ?_|refine sq 7 rfl ?_|fail)
    refine Gi [(9,.c (.ptr 9 0)),(10,AI E),(11,.c (.ptr 11 0)),(12,AI E)] [(9,.box X.cs),(11,.box X.cs)] ?_
    repeat'(first|refine Ad ?_|refine Aa (hsm) ?_|fail)
    all_goals exact AO
end Go.Proofs.M
