/-
  What functions of the program hand back, and plain laws on that. No condition.
-/
import Derived.Test.YtdlcbilgemnomaaGreatSxMah
import Derived.Test.YtdlcbilgemnomaaGreatSxMai
import Derived.Test.YtdlcbilgemnomaaGreatSxMag
import Derived.Test.YtdlcbilgemnomaaGreatSxMab
import Derived.Test.YtdlcbilgemnomaaGreatSxLibC
import Derived.Test.YtdlcbilgemnomaaGreatSxMae
import Derived.Test.YtdlcbilgemnomaaGreatSxMad
import Derived.Test.YtdlcbilgemnomaaGreatSxMaf
import Derived.Test.YtdlcbilgemnomaaGreatSxMac
set_option linter.unusedSimpArgs false
set_option linter.unusedVariables false
section
namespace Go.Proofs.M
open Go Go.Sx Go.Proofs Go.Proofs.T Go.Proofs.Q
open Go.Proofs.P (Nb nbs Rk rkA rkErr checkNb hearM countM forgetM select')
open Go.Proofs.R (startM advM)
set_option maxRecDepth 4000
attribute [local irreducible] VR VC thenQ blockQ retL
set_option maxHeartbeats 2000000 in
theorem Ta (slot turns:Int) (nv:D) (loads:List Ld) (sil:List Si) (arr:List Ar) (w:Wk):PhS 91 slot turns nv loads sil arr w (TL slot arr w).2:=by
 have hm:=V6 w.nd.st slot w.rs;intro r;simp only[Cg,List.map_cons,List.map_nil,List.cons_append,List.nil_append,Nat.reduceAdd];refine FnS.Bw (enters_of Tryz.func91 (by kernel_rfl) rfl) Tryz.func91 rfl Tryz.ntmps91 Tryz.results91 rfl (by first|rfl|(simp only[A0,wfL,AH,wfs,Ae,Ad];rfl)) rfl fun E=>?_
 refine AJ ?_;show VC E _ (retL E (Hr Tryz.prog _ _ [(9100,.pin 100 (r 100)),(9101,.pin 101 (r 101)),(9102,.pin 102 (r 102)),(100,.box [.d (.int .i64 slot),.d (.int .i64 turns),.d nv,.d (lds loads),.d (sis sil),.row 102 arr.length]),(101,.box (Wk.cs (BL slot w))),(102,.row 62 3 (rowOf Ar.enc arr))])) _;cases hb:w.bc with
 |true=>
  have e:BL slot w=w:=by unfold BL;rw[AgZ hb]
  rw[e]
  repeat'(first|refine sB ?_|refine Ak rfl (by exact tt0) ?_|(refine gN ?_;first|refine Aj (gk rfl) rfl rfl ?_)|(refine gD ?_;first|refine Ai rfl ?_|refine At rfl (by assumption) ?_)|fail)
  refine Ao (Am (l:=[]) (b:=[(9100,.pin 100 (r 100)),(9101,.pin 101 (r 101)),(9102,.pin 102 (r 102)),(100,.box [.d (.int .i64 slot),.d (.int .i64 turns),.d nv,.d (lds loads),.d (sis sil),.row 102 arr.length]),(101,.box (Wk.cs w)),(102,.row 62 3 (rowOf Ar.enc arr))]) (fun n=>n) ?_ ?_ rfl (by(simp only[wfL,wfs,Ae,Ad];rfl))) (DG Ab .nil rfl (by repeat'(first|exact tt0|refine⟨rfl,?_⟩)))
  all_goals repeat'(first|exact tt0|refine⟨⟨_,rfl,?_⟩,?_⟩|exact .Bs rfl rfl|exact .pin rfl|exact .Bc rfl Ag|refine .box ?_|exact .nil|refine .cons ?_ ?_|exact .d|exact .row rfl rfl|fail)
 |false=>
  by_cases h:(EZ w.nd.st slot w.rs).2.2=0
  ·have d1:decide ((EZ w.nd.st slot w.rs).2.2=0)=true:=Agj h;have e:BL slot w=⟨⟨(EZ w.nd.st slot w.rs).1,w.nd.rk,w.nd.nb,w.nd.next⟩,w.node,w.ac,w.bc,w.rs,(EZ w.nd.st slot w.rs).2.1⟩:=by unfold BL;rw[AgY (by rw[hb];simp),AgZ h]
   rw[e]
   repeat'(first|refine sB ?_|refine Ak rfl (by exact tt0) ?_|(refine gC ?_;first|refine Aa (hm) (gk rfl) rfl rfl rfl (by rfl) rfl (by rfl) rfl ?_)|(refine gN ?_;first|refine Aj (gk rfl) rfl rfl ?_)|refine Ap (by kernel_rfl) ?_|(refine gD ?_;first|refine Ai rfl ?_|refine Ah rfl ?_|refine At rfl (by assumption) ?_)|fail)
   refine Ao (Am (l:=[]) (b:=[(9100,.pin 100 (r 100)),(9101,.pin 101 (r 101)),(9102,.pin 102 (r 102)),(100,.box [.d (.int .i64 slot),.d (.int .i64 turns),.d nv,.d (lds loads),.d (sis sil),.row 102 arr.length]),(101,.box (Wk.cs ⟨⟨(EZ w.nd.st slot w.rs).1,w.nd.rk,w.nd.nb,w.nd.next⟩,w.node,w.ac,w.bc,w.rs,(EZ w.nd.st slot w.rs).2.1⟩)),(102,.row 62 3 (rowOf Ar.enc arr))]) (fun n=>n) ?_ ?_ rfl (by(simp only[wfL,wfs,Ae,Ad];rfl))) (DG BQ .nil rfl (by repeat'(first|exact tt0|refine⟨rfl,?_⟩)))
   all_goals repeat'(first|exact tt0|refine⟨⟨_,rfl,?_⟩,?_⟩|exact .Bs rfl rfl|exact .pin rfl|exact .Bc rfl Ag|refine .box ?_|exact .nil|refine .cons ?_ ?_|exact .d|exact .row rfl rfl|fail)
  ·have d1:decide ((EZ w.nd.st slot w.rs).2.2=0)=false:=Agk h;have e:BL slot w=w:=by unfold BL;rw[AgY (by rw[hb];simp),AgY h]
   rw[e]
   repeat'(first|refine sB ?_|refine Ak rfl (by exact tt0) ?_|(refine gC ?_;first|refine Aa (hm) (gk rfl) rfl rfl rfl (by rfl) rfl (by rfl) rfl ?_)|(refine gN ?_;first|refine Aj (gk rfl) rfl rfl ?_)|refine Ap (by kernel_rfl) ?_|(refine gD ?_;first|refine Ah rfl ?_|refine At rfl (by assumption) ?_)|fail)
   refine Ao (Am (l:=[]) (b:=[(9100,.pin 100 (r 100)),(9101,.pin 101 (r 101)),(9102,.pin 102 (r 102)),(100,.box [.d (.int .i64 slot),.d (.int .i64 turns),.d nv,.d (lds loads),.d (sis sil),.row 102 arr.length]),(101,.box (Wk.cs w)),(102,.row 62 3 (rowOf Ar.enc arr))]) (fun n=>n) ?_ ?_ rfl (by(simp only[wfL,wfs,Ae,Ad];rfl))) (DG BQ .nil rfl (by repeat'(first|exact tt0|refine⟨rfl,?_⟩)))
   all_goals repeat'(first|exact tt0|refine⟨⟨_,rfl,?_⟩,?_⟩|exact .Bs rfl rfl|exact .pin rfl|exact .Bc rfl Ag|refine .box ?_|exact .nil|refine .cons ?_ ?_|exact .d|exact .row rfl rfl|fail)
end Go.Proofs.M
end
section
namespace Go.Proofs.M
open Go Go.Sx Go.Proofs Go.Proofs.T Go.Proofs.Q
set_option maxRecDepth 4000
attribute [local irreducible] VR VC thenQ blockQ retL
def beR (t:Tb) (turns:Int):Bool:=decide (Cl t=0)&&decide (1<=turns)&&decide (turns<=32)
theorem Pe (t:Tb) (turns:Int):FnS Tryz.prog 223 [tbA t,AI turns] [] (AB (beR t turns)) []:=by
 have hck:=D4 t;refine fb Tryz.func223 (by kernel_rfl) rfl Tryz.ntmps223 Tryz.results223 rfl rfl rfl rfl fun E hS=>?_
 repeat'(first|refine sB ?_|refine Ak rfl (by exact tt0) ?_|(refine gC ?_;first|refine Aa (hck) (gk rfl) rfl rfl rfl (by rfl) rfl (by rfl) rfl ?_)|(refine Ax rfl ?_ ?_<;>intro h<;>have hq:=h<;>(try simp only[hqs] at hq))|fail)
 all_goals(refine Aw Ab rfl ?_;unfold beR)
 all_goals first
  |(simp_all;done)
  |(simp_all;omega)
  |trace_state
theorem KE {p:TC->Bool} {a:TC} (h:p a=true):[a].filter p=[a]:=by simp[h]
theorem KF {p:TC->Bool} {a:TC} (h:p a=false):[a].filter p=[]:=by simp[h]
theorem I2 {t:Tb} {k:Nat} (hk:k<t.cells.length):((t.cells.take (k+1)).filter fun c=>decide (c.kind=3))=((t.cells.take k).filter fun c=>decide (c.kind=3))++(if(t.cells.getD k default).kind=3 then[t.cells.getD k default] else[]):=by
 rw[Ce hk,List.filter_append]
 congr 1
 split
 ·rename_i h;exact KE (Agj h)
 ·rename_i h;exact KF (Agk h)
def WR (t:Tb) (k:Nat):Nat:=((t.cells.take k).filter fun c=>decide (c.kind=3)).length
theorem Wg (t:Tb) (k:Nat):WR t k<=t.cells.length:=by
 unfold WR;have h1:=AgS (fun c:TC=>decide (c.kind=3)) (t.cells.take k);rw[Ags] at h1;omega
theorem Wf {t:Tb} {k:Nat} (hk:k<t.cells.length):WR t (k+1)=if(t.cells.getD k default).kind=3 then WR t k+1 else WR t k:=by
 unfold WR;rw[I2 hk,Agn]
 split<;>rfl
theorem M8 (t:Tb) (hl:t.cells.length<=512):FnS Tryz.prog 224 [tbA t] [] (.tup [.fnc 274 [.ptr 1 0],AI (CX t).length]) [(1,.box t.cs)]:=by
 refine fb Tryz.func224 (by kernel_rfl) rfl Tryz.ntmps224 Tryz.results224 rfl rfl rfl rfl fun E hS=>?_
 repeat'(first|refine sC ?_|refine Ak rfl (by exact tt0) ?_|fail)
 refine AK (ι:=Nat) (fun k=>AS [(1,.c (.ptr 1 0)),(4,AI (WR t k)),(8,AD (tcs t.cells)),(9,AI t.cells.length),(10,AI k)] [(1,.box t.cs)]) (fun k=>k<=t.cells.length) (fun k=>t.cells.length-k) 0 (Ag1 _) ?_ ?_
 ·refine lg ?_ ?_ rfl (by rfl)
  all_goals repeat'(first|exact tt0|refine⟨⟨_,rfl,?_⟩,?_⟩|exact .c .d|exact .c (.ptr rfl)|exact .Bs rfl rfl|fail)
 ·intro k hk;have hcl:=Wg t k;by_cases hc:k<t.cells.length
  ·have hs:=Wf hc;have hdd:decide ((k:Int)<(t.cells.length:Int))=true:=Agj (by omega);by_cases h3:(t.cells.getD k default).kind=3
   ·rw[AgZ h3] at hs;have d3:decide ((t.cells.getD k default).kind=3)=true:=Agj h3
    repeat'(first|refine sC ?_|refine Ak rfl (by first|exact tt0|omega) ?_|(refine gI ?_;first|refine Au (gk rfl) rfl rfl rfl rfl rfl (by omega) rfl ?_)|(refine gD ?_;first|refine Ai rfl ?_|refine At rfl (by assumption) ?_)|fail)
    refine⟨k+1,by omega,by omega,?_⟩;rw[hs];refine lg ?_ ?_ rfl (by rfl)
    all_goals repeat'(first|exact tt0|refine⟨⟨_,rfl,?_⟩,?_⟩|exact .c .d|exact .c (.ptr rfl)|exact .Bs rfl rfl|fail)
   ·rw[AgY h3] at hs;have d3:decide ((t.cells.getD k default).kind=3)=false:=Agk h3
    repeat'(first|refine sC ?_|refine Ak rfl (by first|exact tt0|omega) ?_|(refine gI ?_;first|refine Au (gk rfl) rfl rfl rfl rfl rfl (by omega) rfl ?_)|(refine gD ?_;first|refine Ai rfl ?_|refine Ah rfl ?_|refine At rfl (by assumption) ?_)|fail)
    refine⟨k+1,by omega,by omega,?_⟩;rw[hs];refine lg ?_ ?_ rfl (by rfl)
    all_goals repeat'(first|exact tt0|refine⟨⟨_,rfl,?_⟩,?_⟩|exact .c .d|exact .c (.ptr rfl)|exact .Bs rfl rfl|fail)
  ·have hdd:decide ((k:Int)<(t.cells.length:Int))=false:=Agk (by omega);have e:WR t k=(CX t).length:=by unfold WR CX;rw[AgP (by omega)]
   repeat'(first|refine sB ?_|refine Ak rfl (by exact tt0) ?_|(refine gD ?_;first|refine Ah rfl ?_|refine At rfl (by assumption) ?_)|fail)
   rw[e];exact⟨Ab,[.fnc 274 [.ptr 1 0],AI (CX t).length],.tmp rfl rfl (.tmp rfl rfl .nil),rfl,fun p hp=>by
    rw[Agx] at hp;subst hp;rfl⟩
def TZ (t:Tb) (q:Int) (k:Nat):Nat:=(((t.cells.take k).filter fun c=>decide (c.kind=3)).filter fun c=>decide (c.slot<q)).length
theorem Abl (t:Tb) (q:Int) (k:Nat):TZ t q k<=t.cells.length:=by
 have h1:=AgS (fun c:TC=>decide (c.slot<q)) ((t.cells.take k).filter fun c=>decide (c.kind=3));have:=Wg t k;unfold TZ;unfold WR at this;omega
theorem Pf {t:Tb} {q:Int} {k:Nat} (hk:k<t.cells.length):TZ t q (k+1)=if(t.cells.getD k default).kind=3/\(t.cells.getD k default).slot<q then TZ t q k+1 else TZ t q k:=by
 unfold TZ;rw[I2 hk,List.filter_append,Agn];by_cases h1:(t.cells.getD k default).kind=3
 ·rw[AgZ h1];by_cases h2:(t.cells.getD k default).slot<q
  ·rw[AgZ ⟨h1,h2⟩,KE (p:=fun c=>decide (c.slot<q)) (Agj h2)];rfl
  ·rw[AgY (fun h=>h2 h.2),KF (p:=fun c=>decide (c.slot<q)) (Agk h2)];rfl
 ·rw[AgY h1,AgY (fun h=>h1 h.1)];rfl
def Ada (t:Tb) (q:Int) (k:Nat):Prop:=∀i,i<k->¬((t.cells.getD i default).kind=3/\(t.cells.getD i default).slot=q)
theorem RQ (t:Tb) (q:Int):OG t q=true↔∃i,i<t.cells.length/\(t.cells.getD i default).kind=3/\(t.cells.getD i default).slot=q:=by
 unfold OG CX;rw[AgB];constructor
 ·rintro⟨c,hc,hq⟩;obtain⟨h1,h2⟩:=AgR.1 hc;obtain⟨i,hi,e⟩:=List.mem_iff_getElem.1 h1;refine⟨i,hi,?_⟩;have e2:t.cells.getD i default=c:=by rw[Agi,Agr hi];exact e
  rw[e2];exact⟨AgI h2,AgI hq⟩
 ·rintro⟨i,hi,h1,h2⟩;refine⟨t.cells.getD i default,AgR.2 ⟨?_,Agj h1⟩,Agj h2⟩;rw[Agi,Agr hi];exact AgN hi
theorem Abk {t:Tb} (hs:Srt t.cells) {q:Int} {k:Nat} (hk:k<t.cells.length) (hq:(t.cells.getD k default).slot=q):TZ t q k=FW t q:=by
 have key:∀m,k<=m->m<=t.cells.length->TZ t q m=TZ t q k:=by
  intro m hm
  induction m with
  |zero=>intro _;rw[show k=0 by omega]
  |succ m ih=>
   intro hl;rcases Ag2 k (m+1) with h1|h1
   ·rw[Pf (by omega),AgY,ih (by omega) (by omega)];rintro⟨_,h2⟩;rcases Ag2 k m with h3|h3
    ·have:=H2.1 (hs k m h3 (by omega));omega
    ·rw[show m=k by omega] at h2;omega
   ·rw[show k=m+1 by omega]
 have:=key t.cells.length (by omega) (Ag0 _);rw[<-this];unfold TZ FW CX;rw[AgP (Ag0 _)]
theorem NP (t:Tb) (q:Int) (hc:Cl t=0):FnS Tryz.prog 274 [AI q,.ep (fun j=>[D.int .i64 t.node,.int .i64 t.len,tcs t.cells].getD j .Db) 3] [] (.tup [AI (FW t q),AB (OG t q)]) []:=by
 have hl:=(Cn hc).1;have hs:=LY hc;refine fb Tryz.func274 (by kernel_rfl) rfl Tryz.ntmps274 Tryz.results274 rfl rfl rfl rfl fun E hS=>?_
 repeat'(first|refine sC ?_|refine Ak rfl (by exact tt0) ?_|fail)
 refine AK (ι:=Nat) (fun k=>AS [(0,AI q),(3,AI 0),(4,AB false),(5,AI (TZ t q k)),(9,AD (tcs t.cells)),(10,AI t.cells.length),(11,AI k)] []) (fun k=>k<=t.cells.length/\Ada t q k) (fun k=>t.cells.length-k) 0 ⟨Ag1 _,fun i hi=>absurd hi (AgW _)⟩ ?_ ?_
 ·refine lg ?_ ?_ rfl (by rfl)
  all_goals repeat'(first|exact tt0|refine⟨⟨_,rfl,?_⟩,?_⟩|exact .c .d|fail)
 ·rintro k ⟨hk,hn⟩;have hbl:=Abl t q k;by_cases hc:k<t.cells.length
  ·have hb:=Pf (q:=q) hc;have hdd:decide ((k:Int)<(t.cells.length:Int))=true:=Agj (by omega);have next:¬((t.cells.getD k default).kind=3/\(t.cells.getD k default).slot=q)->Ada t q (k+1):=fun h i hi=>by
    rcases Ag2 i k with h1|h1
    ·exact hn i h1
    ·rw[show i=k by omega];exact h
   by_cases h3:(t.cells.getD k default).kind=3
   ·have d3:decide ((t.cells.getD k default).kind≠3)=false:=Agk (by simpa using h3);by_cases h4:q<(t.cells.getD k default).slot
    ·have d4:decide (q<(t.cells.getD k default).slot)=true:=Agj h4;rw[AgY (by omega)] at hb
     repeat'(first|refine sC ?_|refine Ak rfl (by first|exact tt0|omega) ?_|(refine gI ?_;first|refine Au (gk rfl) rfl rfl rfl rfl rfl (by omega) rfl ?_)|refine Az rfl (by assumption) ?_|(refine gD ?_;first|refine Ai rfl ?_|refine At rfl (by assumption) ?_)|fail)
     refine⟨k+1,⟨by omega,next (by omega)⟩,by omega,?_⟩;rw[hb];refine lg ?_ ?_ rfl (by rfl)
     all_goals repeat'(first|exact tt0|refine⟨⟨_,rfl,?_⟩,?_⟩|exact .c .d|fail)
    ·have d4:decide (q<(t.cells.getD k default).slot)=false:=Agk h4;by_cases h5:(t.cells.getD k default).slot=q
     ·have d5:decide ((t.cells.getD k default).slot=q)=true:=Agj h5;have e1:=Abk hs hc h5;have e2:OG t q=true:=(RQ t q).2 ⟨k,hc,h3,h5⟩;rw[<-e1,e2]
      repeat'(first|refine sC ?_|refine Ak rfl (by exact tt0) ?_|(refine gI ?_;first|refine Au (gk rfl) rfl rfl rfl rfl rfl (by omega) rfl ?_)|refine Az rfl (by assumption) ?_|(refine gD ?_;first|refine Ai rfl ?_|refine Ah rfl ?_|refine At rfl (by assumption) ?_)|fail)
      exact CA Ab rfl rfl rfl rfl
     ·have d5:decide ((t.cells.getD k default).slot=q)=false:=Agk h5;rw[AgZ (by omega)] at hb
      repeat'(first|refine sC ?_|refine Ak rfl (by first|exact tt0|omega) ?_|(refine gI ?_;first|refine Au (gk rfl) rfl rfl rfl rfl rfl (by omega) rfl ?_)|refine Az rfl (by assumption) ?_|(refine gD ?_;first|refine Ai rfl ?_|refine Ah rfl ?_|refine At rfl (by assumption) ?_)|fail)
      refine⟨k+1,⟨by omega,next (by omega)⟩,by omega,?_⟩;rw[hb];refine lg ?_ ?_ rfl (by rfl)
      all_goals repeat'(first|exact tt0|refine⟨⟨_,rfl,?_⟩,?_⟩|exact .c .d|fail)
   ·have d3:decide ((t.cells.getD k default).kind≠3)=true:=Agj h3;rw[AgY (by omega)] at hb
    repeat'(first|refine sC ?_|refine Ak rfl (by first|exact tt0|omega) ?_|(refine gI ?_;first|refine Au (gk rfl) rfl rfl rfl rfl rfl (by omega) rfl ?_)|refine Az rfl (by assumption) ?_|(refine gD ?_;first|refine Ai rfl ?_|refine At rfl (by assumption) ?_)|fail)
    refine⟨k+1,⟨by omega,next (by omega)⟩,by omega,?_⟩;rw[hb];refine lg ?_ ?_ rfl (by rfl)
    all_goals repeat'(first|exact tt0|refine⟨⟨_,rfl,?_⟩,?_⟩|exact .c .d|fail)
  ·have hdd:decide ((k:Int)<(t.cells.length:Int))=false:=Agk (by omega);have e1:TZ t q k=FW t q:=by unfold TZ FW CX;rw[AgP (by omega)]
   have e2:OG t q=false:=by
    cases h:OG t q with
    |false=>rfl
    |true=>
     obtain⟨i,hi,h1,h2⟩:=(RQ t q).1 h;exact absurd ⟨h1,h2⟩ (hn i (by omega))
   rw[<-e1,e2]
   repeat'(first|refine sB ?_|refine Ak rfl (by exact tt0) ?_|(refine gD ?_;first|refine Ah rfl ?_|refine At rfl (by assumption) ?_)|fail)
   exact CA Ab rfl rfl rfl rfl
theorem Wx (t:Tb) (q:Int):FW t q<=t.cells.length:=by
 have h1:=AgS (fun c:TC=>decide (c.slot<q)) (CX t);have h2:=AgS (fun c:TC=>decide (c.kind=3)) t.cells;unfold FW;unfold CX at h1 ⊢;omega
theorem Ab4 {σ:St} {L:List Nat} {nm:Nat} {t:Tb} (hL:nm∈L) (hb:σ (.b nm)=some (.k (.box t.cs))):AR Tryz.prog σ L (.c (.ptr nm 0)) (.ep (fun j=>[D.int .i64 t.node,.int .i64 t.len,tcs t.cells].getD j .Db) 3):=
 .of0 (.ptr hL hb (fun j hj=>by
  have:j=0\/j=1\/j=2:=by omega
  rcases this with rfl|rfl|rfl<;>rfl))
set_option maxHeartbeats 1000000 in
theorem Un (t:Tb) (slot turns:Int) (hs:slot<=109951162):FnS Tryz.prog 166 [tbA t,AI slot,AI turns] [] (.tup [AI (Hl t slot turns).1,AB (Hl t slot turns).2]) []:=by
 have hr:=Pe t turns;refine fb Tryz.func166 (by kernel_rfl) rfl Tryz.ntmps166 Tryz.results166 rfl rfl rfl rfl fun E hS=>?_
 cases hb:beR t turns with
 |false=>
  rw[hb] at hr;have e:Hl t slot turns=(0,false):=by
   unfold Hl;rw[AgZ];unfold beR at hb;by_cases h1:Cl t=0
   ·by_cases h2:1<=turns
    ·by_cases h3:turns<=32
     ·simp[h1,h2,h3] at hb
     ·omega
    ·omega
   ·exact .inl h1
  rw[e]
  repeat'(first|refine sB ?_|refine Ak rfl (by exact tt0) ?_|(refine gC ?_;first|refine Aa (hr) (gk rfl) rfl rfl rfl (by rfl) rfl (by rfl) rfl ?_)|(refine gD ?_;first|refine Ai rfl ?_)|fail)
  exact CA Ab rfl rfl rfl rfl
 |true=>
  rw[hb] at hr;unfold beR at hb;simp only[Agt,Agl] at hb;obtain⟨⟨hc,h1⟩,h2⟩:=hb;have hl:=Cn hc;by_cases h0:slot<0
  ·have d0:decide (slot<0)=true:=Agj h0;have e:Hl t slot turns=(0,false):=by unfold Hl;rw[AgZ (by omega)]
   rw[e]
   repeat'(first|refine sB ?_|refine Ak rfl (by exact tt0) ?_|(refine gC ?_;first|refine Aa (hr) (gk rfl) rfl rfl rfl (by rfl) rfl (by rfl) rfl ?_)|(refine gD ?_;first|refine Ai rfl ?_|refine At rfl (by assumption) ?_)|fail)
   exact CA Ab rfl rfl rfl rfl
  ·have d0:decide (slot<0)=false:=Agk h0;have hsh:=M8 t hl.1;have hs1:=NP t (slot % t.len) hc;have hbf:=Wx t (slot % t.len);have hcn:(CX t).length<=512:=by
    have:=AgS (fun c:TC=>decide (c.kind=3)) t.cells;unfold CX;omega
   cases hh:OG t (slot % t.len) with
   |false=>
    rw[hh] at hs1;have e:Hl t slot turns=(0,false):=by unfold Hl;rw[AgY (by omega),AgZ hh]
    rw[e]
    repeat'(first|refine sB ?_|refine Ak rfl (by first|exact tt0|omega) ?_|(refine gC ?_;first|refine Aa (hr) (gk rfl) rfl rfl rfl (by rfl) rfl (by rfl) rfl ?_|refine B4 (nmL []) [] [] (FnS.toW hsh) (gk rfl) rfl rfl (by(repeat'(first|exact .nil|refine .cons ?_ ?_|refine .r ?_|refine .of0 (.agg ?_)|exact .d))<;>fail) (by(repeat'(exact trivial))<;>fail) rfl rfl rfl (by rfl) rfl (by rfl) rfl rfl rfl (by(simp only[F5,List.map_cons,List.map_nil,Blk.ren,C.ren,Bp,BU,BT,gW,D1,nmL,Nat.reduceBEq,Bool.or_false,Bool.or_true,Bool.false_or,Bool.true_or,cond_true,cond_false,Nat.reduceMul,Nat.reduceAdd])<;>rfl) (by(simp only[AV.ren,AV.HQ,List.map_cons,List.map_nil,C.ren,gW,D1,nmL,Nat.reduceBEq,Bool.or_false,Bool.or_true,Bool.false_or,Bool.true_or,cond_true,cond_false,Nat.reduceMul,Nat.reduceAdd])<;>rfl) rfl ?_|refine Q6 [22001] (hs1) (gk rfl) rfl rfl (by(repeat'(first|exact .nil|refine .cons ?_ ?_|exact .of0 (.c .d)|exact(Ab4 (by simp) rfl)))<;>fail) rfl rfl rfl rfl rfl ?_)|(refine gD ?_;first|refine Ai rfl ?_|refine Ah rfl ?_|refine At rfl (by assumption) ?_)|fail)
    exact CA Ab rfl rfl rfl rfl
   |true=>
    rw[hh] at hs1;have e:Hl t slot turns=((slot/t.len % turns*(CX t).length+FW t (slot % t.len)) % turns,true):=by unfold Hl;rw[AgY (by omega),AgY (by rw[hh];simp)]
    have q1:0<=slot/t.len:=Int.ediv_nonneg (by omega) (by omega);have q2:0<=slot/t.len % turns:=Int.emod_nonneg _ (by omega);have q3:slot/t.len % turns<turns:=Int.emod_lt_of_pos _ (by omega);have q4:0<=slot/t.len % turns*((CX t).length:Int):=Int.mul_nonneg q2 (by omega);have q5:slot/t.len % turns*((CX t).length:Int)<=32*512:=Int.mul_le_mul (by omega) (by omega) (by omega) (by omega);have q6:slot/t.len<=slot:=Int.ediv_le_self _ (by omega);rw[e]
    repeat'(first|refine sB ?_|refine Ak rfl (by first|exact tt0|omega) ?_|(refine gC ?_;first|refine Aa (hr) (gk rfl) rfl rfl rfl (by rfl) rfl (by rfl) rfl ?_|refine B4 (nmL []) [] [] (FnS.toW hsh) (gk rfl) rfl rfl (by(repeat'(first|exact .nil|refine .cons ?_ ?_|refine .r ?_|refine .of0 (.agg ?_)|exact .d))<;>fail) (by(repeat'(exact trivial))<;>fail) rfl rfl rfl (by rfl) rfl (by rfl) rfl rfl rfl (by(simp only[F5,List.map_cons,List.map_nil,Blk.ren,C.ren,Bp,BU,BT,gW,D1,nmL,Nat.reduceBEq,Bool.or_false,Bool.or_true,Bool.false_or,Bool.true_or,cond_true,cond_false,Nat.reduceMul,Nat.reduceAdd])<;>rfl) (by(simp only[AV.ren,AV.HQ,List.map_cons,List.map_nil,C.ren,gW,D1,nmL,Nat.reduceBEq,Bool.or_false,Bool.or_true,Bool.false_or,Bool.true_or,cond_true,cond_false,Nat.reduceMul,Nat.reduceAdd])<;>rfl) rfl ?_|refine Q6 [22001] (hs1) (gk rfl) rfl rfl (by(repeat'(first|exact .nil|refine .cons ?_ ?_|exact .of0 (.c .d)|exact(Ab4 (by simp) rfl)))<;>fail) rfl rfl rfl rfl rfl ?_)|(refine gD ?_;first|refine Ah rfl ?_|refine At rfl (by assumption) ?_)|fail)
    exact CA Ab rfl rfl rfl rfl
set_option maxHeartbeats 1000000 in
theorem Ya (t:Tb) (slot turns:Int) (hs:slot<=109951162):FnS Tryz.prog 123 [tbA t,AI slot,AI turns] [] (AB (Ub t slot turns)) []:=by
 have ha:=M9 t slot;have ht:=Un t slot turns hs;refine fb Tryz.func123 (by kernel_rfl) rfl Tryz.ntmps123 Tryz.results123 rfl rfl rfl rfl fun E hS=>?_
 cases h1:(atM t slot).2 with
 |false=>
  have e:Ub t slot turns=false:=by unfold Ub;rw[h1];rfl
  rw[h1] at ha;rw[e]
  repeat'(first|refine sB ?_|refine Ak rfl (by exact tt0) ?_|(refine gC ?_;first|refine Aa (ha) (gk rfl) rfl rfl rfl (by rfl) rfl (by rfl) rfl ?_|refine Aa (ht) (gk rfl) rfl rfl rfl (by rfl) rfl (by rfl) rfl ?_)|fail)
  exact Aw Ab rfl rfl
 |true=>
  rw[h1] at ha;cases h2:(Hl t slot turns).2 with
  |false=>
   have e:Ub t slot turns=false:=by unfold Ub;rw[h1,h2];rfl
   rw[h2] at ht;rw[e]
   repeat'(first|refine sB ?_|refine Ak rfl (by exact tt0) ?_|(refine gC ?_;first|refine Aa (ha) (gk rfl) rfl rfl rfl (by rfl) rfl (by rfl) rfl ?_|refine Aa (ht) (gk rfl) rfl rfl rfl (by rfl) rfl (by rfl) rfl ?_)|fail)
   exact Aw Ab rfl rfl
  |true=>
   rw[h2] at ht;by_cases h3:(atM t slot).1.kind=3
   ·have d3:decide ((atM t slot).1.kind=3)=true:=Agj h3;have e:Ub t slot turns=decide ((Hl t slot turns).1=t.node % turns):=by unfold Ub;rw[h1,h2,d3];rfl
    have hr:Cl t=0/\1<=turns:=by
     unfold Hl at h2
     split at h2
     ·cases h2
     ·omega
    have hn:=(Cn hr.1).2.2.2;have hn:0<=t.node/\t.node<32:=AgI hn;rw[e]
    repeat'(first|refine sB ?_|refine Ak rfl (by first|exact tt0|omega) ?_|(refine gC ?_;first|refine Aa (ha) (gk rfl) rfl rfl rfl (by rfl) rfl (by rfl) rfl ?_|refine Aa (ht) (gk rfl) rfl rfl rfl (by rfl) rfl (by rfl) rfl ?_)|refine Az rfl (by assumption) ?_|fail)
    exact Aw Ab rfl rfl
   ·have d3:decide ((atM t slot).1.kind=3)=false:=Agk h3;have e:Ub t slot turns=false:=by unfold Ub;rw[h1,h2,d3];rfl
    rw[e]
    repeat'(first|refine sB ?_|refine Ak rfl (by exact tt0) ?_|(refine gC ?_;first|refine Aa (ha) (gk rfl) rfl rfl rfl (by rfl) rfl (by rfl) rfl ?_|refine Aa (ht) (gk rfl) rfl rfl rfl (by rfl) rfl (by rfl) rfl ?_)|refine Az rfl (by assumption) ?_|fail)
    exact Aw Ab rfl rfl
end Go.Proofs.M
end
section
namespace Go.Proofs
open Go Go.Sx Go.Proofs.T Go.Proofs.Q
set_option maxRecDepth 4000
attribute [local irreducible] VR VC thenQ blockQ retL
theorem Y5 {src slot rank epoch:Nat} {d:ByteArray} (h0:src<=31) (h1:slot<=109951162) (h2:rank<=65535) (h3:epoch<=65535):Ib (bcn src slot rank epoch d)=0:=by
 rw[IU];refine⟨⟨by show(0:Int)<=(src:Int)/\(src:Int)<=31;omega,by show(0:Int)<=0/\(0:Int)<=255;omega,by show(0:Int)<=0/\(0:Int)<=255;omega⟩,.inr (.inr (.inl ⟨rfl,rfl,?_,?_,?_,rfl,rfl,rfl⟩))⟩
 ·show(0:Int)<=(slot:Int)/\(slot:Int)<=109951162;omega
 ·show(0:Int)<=(rank:Int)/\(rank:Int)<=65535;omega
 ·show(0:Int)<=(epoch:Int)/\(epoch:Int)<=65535;omega
end Go.Proofs
end
section
namespace Go.Proofs.R
open Go Go.Sx Go.Proofs.P
set_option maxRecDepth 4000
attribute [local irreducible] VR VC thenQ blockQ retL
set_option maxHeartbeats 2000000 in
theorem Vh (nd ep rk slot:Nat) (p h le:Int) (h0:nd<=31) (h1:slot<=109951162) (h2:rk<=65534) (h3:ep<=65535):
  FnS Tryz.prog 125 [rkA ⟨nd,ep,p,h,rk,le⟩,AI 0,AI 0,AI slot,Ad6 false] [] (.tup [frA (bcn nd slot rk ep (Aas false)),AI 0]) []:=by
 have hc:=KO (bcn nd slot rk ep (Aas false));rw[Y5 h0 h1 (by omega) h3] at hc;have d1:decide ((65535:Int)<=(rk:Int))=false:=Agk (by omega);refine fb Tryz.func125 (by kernel_rfl) rfl Tryz.ntmps125 Tryz.results125 rfl rfl rfl rfl fun E hS=>?_
 repeat'(first|refine sB ?_|refine Ak rfl (by exact tt0) ?_|(refine gC ?_;first|refine Aa (U6 false) (gk rfl) rfl rfl rfl (by rfl) rfl (by exact Av) rfl ?_|refine Aa (hc) (gk rfl) rfl rfl rfl (by rfl) rfl (by exact Av) rfl ?_)|(refine gD ?_;first|refine Ah rfl ?_|refine At rfl (by assumption) ?_)|fail)
 exact Ee Ab rfl rfl rfl rfl rfl rfl rfl
end Go.Proofs.R
end
section
namespace Go.Proofs.R
open Go Go.Sx Go.Proofs.P
def AdOK (r:Rk) (e k:Int):Prop:=e<r.epoch\/(e=r.epoch/\r.least<=k)
def Mono (r s:Rk):Prop:=r.epoch<s.epoch\/(r.epoch=s.epoch/\s.least<=r.least)
theorem AdOK.mono {r s:Rk} {e k:Int} (h:AdOK r e k) (m:Mono r s):AdOK s e k:=by
 unfold AdOK Mono at *;omega
theorem Mono.refl (r:Rk):Mono r r:=.inr ⟨rfl,Int.le_refl _⟩
theorem Mono.trans {r s t:Rk} (h:Mono r s) (m:Mono s t):Mono r t:=by
 unfold Mono at *;omega
theorem LF (r:Rk) (e:Int):Mono r (BP r e):=by
 unfold BP Mono
 split
 ·left;assumption
 ·exact .inr ⟨rfl,Int.le_refl _⟩
theorem Of (r:Rk):Mono r (Hu r):=by
 unfold Hu
 split
 ·exact .inr ⟨rfl,Int.le_refl _⟩
 ·exact Mono.refl r
theorem I7 (r:Rk) (fr e k c:Int):Mono r (Cm r fr e k c):=LF r e
def Abv (l:List Nb) (r s:Rk):Prop:=s.parent=-1\/(∃b,b<l.length/\(l.getD b default).node=s.parent/\(l.getD b default).epoch=s.epoch/\(l.getD b default).rank=s.heard)\/(s.parent=r.parent/\s.epoch=r.epoch/\s.heard=r.heard)
theorem RV {l:List Nb} {s:Rk} {b:Nat} (r:Rk) (hb:b<l.length) (h:Np l s b):Abv l r (HD l s b):=
 .inr (.inl ⟨b,hb,rfl,(GY (by have:=h.X3;omega)).symm,rfl⟩)
theorem SP {l:List Nb} (hl:checkNb l=0) {r:Rk} (hr:rkErr r=0) (hn:r.node≠0):Mono r (CL l r)/\Abv l r (CL l r):=by
 by_cases hp:r.parent<0
 ·rw[J0 hp];exact⟨Mono.refl r,.inr (.inr ⟨rfl,rfl,rfl⟩)⟩
 by_cases hf:BY l r.parent=true
 ·obtain⟨hb,he⟩:=CB.1 hf;obtain⟨ha,_⟩:=Dh hl hb;rw[Mn hl hb he.symm];obtain⟨_,h⟩:=I0 hr (by omega) ha (Fx hl hb);rcases h with⟨_,h⟩|⟨_,hc,h⟩|⟨_,h⟩
  ·rw[h];exact⟨Mono.refl r,.inr (.inr ⟨rfl,rfl,rfl⟩)⟩
  ·rw[h];have hc':Np l r (C8 l r.parent):=by unfold Np;rw[he];exact hc
   have e:Cm r r.parent (l.getD (C8 l r.parent) default).epoch (l.getD (C8 l r.parent) default).rank (Jl (l.getD (C8 l r.parent) default).att (l.getD (C8 l r.parent) default).ack)=HD l r (C8 l r.parent):=by
    unfold HD;rw[he]
   rw[e];exact⟨I7 _ _ _ _ _,RV r hb hc'⟩
  ·rw[h];rw[Fa] at ha;have hb':=Rq hr ha.1 (show r.parent≠-1 by omega);exact⟨(LF _ _).trans (Of _),.inl (FO hb')⟩
 ·have e:CL l r=Hu r:=by unfold CL;rw[AgZ (by omega),AgY hf]
  rw[e];exact⟨Of r,.inl (FO hr)⟩
theorem Ho {l:List Nb} (hl:checkNb l=0) {r:Rk} (hr:rkErr r=0) {m:Int} (hm:0<=m/\m<=65535):
  (select' l r m).2.2=0/\rkErr (select' l r m).1=0/\(select' l r m).1.node=r.node/\Mono r (select' l r m).1/\Abv l r (select' l r m).1:=by
 have hm':inR m 0 65535=true:=by rw[C0];exact hm
 by_cases hn:r.node=0
 ·have e:select' l r m=(r,false,0):=by
   unfold select';rw[AgY (by simp[hl,hr]),AgY (by simp[hm']),AgZ hn]
  rw[e];exact⟨rfl,hr,rfl,Mono.refl r,.inr (.inr ⟨rfl,rfl,rfl⟩)⟩
 ·have e:select' l r m=(IC l (CL l r) m,decide ((IC l (CL l r) m).parent≠r.parent),0):=by
   unfold select';rw[AgY (by simp[hl,hr]),AgY (by simp[hm']),AgY hn]
  have hA:=Hm hl hr hn;have hF:=SP hl hr hn;have hs:=UB hl hr hn hm;rw[e];refine⟨rfl,hs.right,hs.node,?_⟩;dsimp only;by_cases ht:Ml l (CL l r) m=true
  ·obtain⟨b,_,hbl,_,hc,he,_⟩:=IB hl ht;rw[he];exact⟨hF.1.trans (I7 _ _ _ _ _),RV r hbl hc⟩
  ·have e2:IC l (CL l r) m=CL l r:=by unfold IC;rw[AgY ht]
   rw[e2];exact hF
end Go.Proofs.R
end
section
namespace Go.Proofs.P
open Go Go.Sx
set_option maxRecDepth 4000
attribute [local irreducible] VR VC thenQ blockQ retL
theorem M1 {l:List Nb} (hlen:l.length<=32) (hr:∀k,k<l.length->DO (l.getD k default).node (l.getD k default).epoch (l.getD k default).rank (l.getD k default).slot=true/\(0<=(l.getD k default).att/\(l.getD k default).att<=255)/\0<=(l.getD k default).ack/\(l.getD k default).ack<=(l.getD k default).att)
  (hm:∀k,0<k->k<l.length->(l.getD (k-1) default).node<(l.getD k default).node):checkNb l=0:=by
 unfold checkNb;rw[AgY (by omega)];refine CI fun k hk=>?_
 obtain⟨h1,h2,h3⟩:=hr k hk;unfold Ht;dsimp only;have ha:inR (l.getD k default).att 0 255=true:=by rw[C0];exact h2
 have hb:inR (l.getD k default).ack 0 (l.getD k default).att=true:=by rw[C0];exact h3
 rw[h1,ha,hb];simp only[Bool.and_self,if_true];rw[AgY];rintro⟨h0,hle⟩;have:=hm k h0 hk;omega
theorem MQ {l:List Nb} {i j:Nat} {y:Nb} (hi:i<=l.length):(Bq l i y).getD j default=if j<i then l.getD j default else if j=i then y else l.getD (j-1) default:=by
 unfold Bq;simp only[Agi];have hl:(l.take i).length=i:=by rw[Ags];omega
 split
 ·rw[List.getElem?_append_left (by omega),List.getElem?_take_of_lt (by assumption)]
 ·rw[List.getElem?_append_right (by omega),hl]
  split
  ·rename_i h;subst h;simp
  ·obtain⟨m,hm⟩:∃m,j-i=m+1:=⟨j-i-1,by omega⟩;rw[hm,List.getElem?_cons_succ,List.getElem?_drop]
   congr 2
   omega
theorem Ql {l:List Nb} {i:Nat} {y:Nb} (hi:i<=l.length):(Bq l i y).length=l.length+1:=by
 simp only[Bq,Agn,Ags,List.length_cons,Agv];omega
theorem Aay {l:List Nb} (h:checkNb l=0):∀k,k<l.length->(k:Int)<=(l.getD k default).node:=by
 intro k
 induction k with
 |zero=>intro hk;have:=(Dh h hk).2.1;simpa using this
 |succ k ih=>
  intro hk;have h1:=ih (by omega);have h2:=Tg h (i:=k+1) (by omega) hk;simp only[Nat.add_sub_cancel] at h2
  push_cast
  omega
theorem XG {l:List Nb} (h:checkNb l=0) {t:Int} (ht:0<=t/\t<=31) (hf:BY l t=false):l.length<=31:=by
 obtain⟨b1,b2,b3⟩:=M3 h t;have hti:(C8 l t:Int)<=t:=by
  rcases Nat.eq_zero_or_pos (C8 l t) with h0|h0
  ·rw[h0];simpa using ht.1
  ·have h1:=b2 (C8 l t-1) (by omega);have h2:=Aay h (C8 l t-1) (by omega);omega
 by_cases hlt:C8 l t<l.length
 ·have hne:(l.getD (C8 l t) default).node≠t:=fun e=>by
   have:=CB.2 ⟨hlt,e⟩;rw[hf] at this;cases this
  have key:∀j,C8 l t+j<l.length->t+1+j<=(l.getD (C8 l t+j) default).node:=by
   intro j
   induction j with
   |zero=>intro hj;have:=b3 _ (Ag0 _) hlt;simp only[Nat.add_zero] at *;omega
   |succ j ih=>
    intro hj;have h1:=ih (by omega);have h2:=Tg h (i:=C8 l t+(j+1)) (by omega) hj;rw[show C8 l t+(j+1)-1=C8 l t+j by omega] at h2
    push_cast
    omega
  have h1:=key (l.length-1-C8 l t) (by omega);have h2:=(Dh h (k:=C8 l t+(l.length-1-C8 l t)) (by omega)).2.2;omega
 ·omega
theorem Tx {l:List Nb} (h:checkNb l=0) {t e k s:Int} (hr:DO t e k s=true):checkNb (Lh l t e k s)=0:=by
 obtain⟨hlen,hall⟩:=BN h;obtain⟨b1,b2,b3⟩:=M3 h t;unfold Lh;cases hf:BY l t with
 |true=>
  obtain⟨hi,hn⟩:=CB.1 hf;simp only[if_true];have hnode:∀j,((l.set (C8 l t) (WH (l.getD (C8 l t) default) e k s)).getD j default).node=(l.getD j default).node:=fun j=>by
   rw[GC hi];split
   ·rename_i e;rw[e];rfl
   ·rfl
  refine M1 (by rw[Agy];omega) (fun j hj=>?_) (fun j h0 hj=>?_)
  ·rw[Agy] at hj;have hx:=Cx (hall _ hi);rw[GC hi];split
   ·refine⟨?_,hx.2⟩;show DO (l.getD (C8 l t) default).node e k s=true;rw[hn];exact hr
   ·exact Cx (hall _ hj)
  ·rw[Agy] at hj;rw[hnode,hnode];exact Tg h h0 hj
 |false=>
  simp only[Bool.false_eq_true,if_false];have ht:0<=t/\t<=31:=by simp only[DO,Agt,C0] at hr;omega
  have hroom:=XG h ht hf;refine M1 (by rw[Ql b1];omega) (fun j hj=>?_) (fun j h0 hj=>?_)
  ·rw[Ql b1] at hj;rw[MQ b1]
   split
   ·exact Cx (hall _ (by omega))
   ·split
    ·exact⟨hr,by simp[WH,Qc],by simp[WH,Qc]⟩
    ·exact Cx (hall _ (by omega))
  ·rw[Ql b1] at hj;rw[MQ b1,MQ b1];have hne:C8 l t<l.length->(l.getD (C8 l t) default).node≠t:=fun hlt e=>by
    have:=CB.2 ⟨hlt,e⟩;rw[hf] at this;cases this
   by_cases h1:j<C8 l t
   ·rw[AgZ (by omega),AgZ h1];exact Tg h h0 (by omega)
   ·by_cases h2:j=C8 l t
    ·rw[AgZ (by omega),AgY h1,AgZ h2];exact b2 _ (by omega)
    ·rw[AgY (by omega),AgY h1,AgY h2];by_cases h3:j-1=C8 l t
     ·rw[AgZ h3];have h4:=b3 (j-1) (by omega) (by omega);have h5:=hne (by omega);rw[<-h3] at h5;show t<_;omega
     ·rw[AgY h3];exact Tg h (by omega) (by omega)
end Go.Proofs.P
end
section
namespace Go.Proofs.R
open Go Go.Sx Go.Proofs.P
structure Wk where
 r:Rk
 l:List Nb
 deriving Inhabited
structure Sd where
 nd:Nat
 slot:Nat
 rk:Nat
 ep:Nat
 deriving Inhabited
structure Dd where
 kind:Int
 node:Int
 Ze:Int
 slot:Int
 deriving Inhabited
def AeH (w:Wk) (m:Int):Wk:=⟨(select' w.l w.r m).1,w.l⟩
def AdAt (L:List Wk) (p e k:Int):Prop:=∃j:Nat,j<L.length/\p=j/\AdOK (L.getD j default).r e k
structure NL (L:List Wk) (said:List Sd) (slot:Int):Prop where
 node:∀i,i<L.length->(L.getD i default).r.node=i
 rk:∀i,i<L.length->rkErr (L.getD i default).r=0
 nb:∀i,i<L.length->checkNb (L.getD i default).l=0
 CE:∀i,i<L.length->∀x∈(L.getD i default).l,x.slot<=slot
 ad:∀i,i<L.length->∀x∈(L.getD i default).l,AdAt L x.node x.epoch x.rank
 sd:∀s∈said,AdAt L s.nd s.ep s.rk/\(1<=s.ep/\s.ep<=65535)/\s.rk<=65534/\(s.slot:Int)<=slot
 par:∀i,i<L.length->(L.getD i default).r.parent≠-1->AdAt L (L.getD i default).r.parent (L.getD i default).r.epoch (L.getD i default).r.heard
theorem YE {L:List Wk} {i j:Nat} {w:Wk} (hi:i<L.length):(L.set i w).getD j default=if j=i then w else L.getD j default:=by
 by_cases h:j=i
 ·subst h;simp[Agi,hi]
 ·simp[Agi,h,AgG (Ne.symm h)]
theorem AdAt.set {L:List Wk} {i:Nat} {w:Wk} (hi:i<L.length) (hm:Mono (L.getD i default).r w.r) {p e k:Int} (h:AdAt L p e k):AdAt (L.set i w) p e k:=by
 obtain⟨j,hj,hp,ha⟩:=h;refine⟨j,by rw[Agy];exact hj,hp,?_⟩;rw[YE hi]
 split
 ·rename_i e;subst e;exact ha.mono hm
 ·exact ha
structure Goes (L:List Wk) (slot:Int) (i:Nat) (w:Wk):Prop where
 node:w.r.node=i
 rk:rkErr w.r=0
 nb:checkNb w.l=0
 CE:∀x∈w.l,x.slot<=slot
 ad:∀x∈w.l,AdAt L x.node x.epoch x.rank
 mono:Mono (L.getD i default).r w.r
 par:w.r.parent≠-1->AdAt L w.r.parent w.r.epoch w.r.heard
theorem NL.set {L:List Wk} {said:List Sd} {slot slot2:Int} (h:NL L said slot) (hs:slot<=slot2) {i:Nat} (hi:i<L.length) {w:Wk} (g:Goes L slot2 i w):NL (L.set i w) said slot2:=by
 refine⟨fun j hj=>?_,fun j hj=>?_,fun j hj=>?_,fun j hj=>?_,fun j hj=>?_,fun s hs2=>?_,fun j hj=>?_⟩
 all_goals try rw[Agy] at hj
 all_goals try rw[YE hi]
 ·split
  ·rename_i e;subst e;exact g.node
  ·exact h.node j hj
 ·split
  ·exact g.rk
  ·exact h.rk j hj
 ·split
  ·exact g.nb
  ·exact h.nb j hj
 ·split
  ·exact g.CE
  ·exact fun x hx=>Int.le_trans (h.CE j hj x hx) hs
 ·split
  ·exact fun x hx=>(g.ad x hx).set hi g.mono
  ·exact fun x hx=>(h.ad j hj x hx).set hi g.mono
 ·obtain⟨h1,h2,h3,h4⟩:=h.sd s hs2;exact⟨h1.set hi g.mono,h2,h3,Int.le_trans h4 hs⟩
 ·split
  ·exact fun hp=>(g.par hp).set hi g.mono
  ·exact fun hp=>(h.par j hj hp).set hi g.mono
theorem XV {L:List Wk} {said:List Sd} {slot slot2 m:Int} (h:NL L said slot) (hm:0<=m/\m<=65535) {i:Nat} (hi:i<L.length) {l:List Nb} (hc:checkNb l=0) (hsl:∀x∈l,x.slot<=slot2) (had:∀x∈l,AdAt L x.node x.epoch x.rank):
  Goes L slot2 i (AeH ⟨(L.getD i default).r,l⟩ m):=by
 obtain⟨_,h2,h3,h4,h5⟩:=Ho hc (h.rk i hi) hm;refine⟨h3.trans (h.node i hi),h2,hc,hsl,had,h4,fun hp=>?_⟩;show AdAt L (select' l (L.getD i default).r m).1.parent (select' l (L.getD i default).r m).1.epoch (select' l (L.getD i default).r m).1.heard;rcases h5 with h5|⟨b,hb,e1,e2,e3⟩|⟨e1,e2,e3⟩
 ·exact absurd h5 hp
 ·rw[<-e1,<-e2,<-e3];refine had _ ?_;rw[Agi,Agr hb];exact AgN hb
 ·rw[e1,e2,e3];refine h.par i hi ?_;rw[<-e1];exact hp
theorem CU {l:List Nb} {i:Nat} (h:i<l.length):l.getD i default∈l:=by
 rw[Agi,Agr h];exact AgN h
theorem Oj {l:List Nb} {t e k s:Int} {x:Nb} (h:x∈Lh l t e k s):x∈l\/(x.node=t/\x.epoch=e/\x.rank=k/\x.slot=s):=by
 unfold Lh at h;cases hf:BY l t with
 |true=>
  rw[hf] at h;simp only[if_true] at h;rcases List.mem_or_eq_of_mem_set h with h|h
  ·exact .inl h
  ·subst h;exact .inr ⟨(CB.1 hf).2,rfl,rfl,rfl⟩
 |false=>
  rw[hf] at h;simp only[Bool.false_eq_true,if_false,P.Bq] at h;rcases List.mem_append.1 h with h|h
  ·exact .inl (Ag6 h)
  ·rcases AgD.1 h with h|h
   ·subst h;exact .inr ⟨rfl,rfl,rfl,rfl⟩
   ·exact .inl (List.mem_of_mem_drop h)
theorem Tq {l:List Nb} (h:checkNb l=0) (slot age:Int):checkNb (kept l slot age)=0:=by
 obtain⟨hlen,hall⟩:=BN h;have hle:(kept l slot age).length<=l.length:=AgS ..;have hmem:∀k,k<(kept l slot age).length->(kept l slot age).getD k default∈l:=fun k hk=>(AgR.1 (CU hk)).1
 have hpw:l.Pairwise fun a b=>a.node<b.node:=by
  rw[List.pairwise_iff_getElem];intro a b ha hb hab;have:=MG h hab hb;simpa [Agi,ha,hb] using this
 have hpk:(kept l slot age).Pairwise fun a b=>a.node<b.node:=hpw.filter _
 refine M1 (by omega) (fun k hk=>?_) (fun k h0 hk=>?_)
 ·obtain⟨j,hj,e⟩:=List.mem_iff_getElem.1 (hmem k hk);have:=Cx (hall j hj);rw[show l.getD j default=(kept l slot age).getD k default by rw[Agi,Agr hj];exact e] at this;exact this
 ·rw[List.pairwise_iff_getElem] at hpk;have:=hpk (k-1) k (by omega) hk (by omega);simpa [Agi,hk,show k-1<(kept l slot age).length by omega] using this
theorem So {r:Rk} (h:rkErr r=0) (hk:r.rank≠65535):(advM r).2.2.2=0/\(advM r).1={r with least:=min r.least r.rank}/\(1<=r.epoch/\r.epoch<=65535)/\0<=r.rank/\r.rank<=65534/\rkErr (advM r).1=0:=by
 obtain⟨h1,h2,h3,h4⟩:=Mt h;have e:advM r=({r with least:=min r.least r.rank},r.epoch,r.rank,0):=by
  unfold advM;rw[AgY (by simp[h]),AgY hk]
 rw[e];simp only[C0] at h2;simp only[Fm,Bool.or_eq_true,Agt,Agl,C0] at h3;by_cases h0:r.node=0
 ·have h4':=h4;unfold E4 at h4;rw[AgZ h0] at h4;simp only[Agt,Agl,Bool.or_eq_true] at h4;refine⟨rfl,rfl,by omega,by omega,by omega,UL h1 (by rw[C0];exact h2) ?_ ?_⟩
  ·simp only[Fm,Bool.or_eq_true,Agt,Agl,C0]
   right;omega
  ·unfold E4;rw[AgZ h0];simp only[Agt,Agl,Bool.or_eq_true];omega
 ·unfold E4 at h4;rw[AgY h0] at h4;by_cases hp:r.parent=-1
  ·rw[AgZ hp] at h4;simp only[Agt,Agl] at h4;exact absurd h4.1.2 hk
  ·rw[AgY hp] at h4;simp only[Agt,Agl,ne_eq] at h4;refine⟨rfl,rfl,by omega,by omega,by omega,UL h1 (by rw[C0];exact h2) ?_ ?_⟩
   ·simp only[Fm,Bool.or_eq_true,Agt,Agl,C0]
    left;omega
   ·unfold E4;rw[AgY h0,AgY hp];simp only[Agt,Agl,ne_eq];refine⟨⟨⟨⟨⟨⟨h4.1.1.1.1.1.1,h4.1.1.1.1.1.2⟩,?_⟩,?_⟩,?_⟩,?_⟩,?_⟩<;>omega
end Go.Proofs.R
end
section
namespace Go.Proofs.M
open Go Go.Sx Go.Proofs Go.Proofs.T Go.Proofs.Q
open Go.Proofs.P (Nb nbs Rk rkA rkErr checkNb hearM countM forgetM select')
open Go.Proofs.R (startM advM)
set_option maxRecDepth 4000
attribute [local irreducible] VR VC thenQ blockQ retL
theorem XI (r:Rk) (slot:Int) (h:rkErr r=0) (hk:r.rank≠65535) (hs:0<=slot/\slot<=109951162):FnS Tryz.prog 125 [rkA r,AI 0,AI 0,AI slot,Ad6 false] [] (.tup [frA (bcF r slot),AI 0]) []:=by
 obtain⟨_,_,a3,a4,a5,_⟩:=R.So h hk;obtain⟨n1,_,_⟩:=P.Xo h;have hm:=R.Vh r.node.toNat r.epoch.toNat r.rank.toNat slot.toNat r.parent r.heard r.least (by omega) (by omega) (by omega) (by omega);have e1:((r.node.toNat:Nat):Int)=r.node:=by omega
 have e2:((r.epoch.toNat:Nat):Int)=r.epoch:=by omega
 have e3:((r.rank.toNat:Nat):Int)=r.rank:=by omega
 have e4:((slot.toNat:Nat):Int)=slot:=by omega
 have e5:bcn r.node.toNat slot.toNat r.rank.toNat r.epoch.toNat (Aas false)=bcF r slot:=by
  unfold bcn bcF;rw[e1,e2,e3,e4]
 rw[e1,e2,e3,e4,e5] at hm;exact hm
theorem WE {r:Rk} (h:(advM r).2.2.2=0):rkErr r=0/\r.rank≠65535:=by
 unfold advM at h
 split at h
 ·cases h
 ·rename_i h1
  split at h
  ·cases h
  ·rename_i h2;exact⟨by simpa using h1,h2⟩
set_option maxHeartbeats 4000000 in
theorem U0 (slot turns:Int) (nv:D) (loads:List Ld) (sil:List Si) (arr:List Ar) (w:Wk) (hs:0<=slot/\slot<=109951162):PhS 89 slot turns nv loads sil arr w (YZ slot turns arr w).2:=by
 have hd:=Ya w.nd.st.tb slot turns hs.2;have ha:=R.WG w.nd.rk;have hat:=M9 w.nd.st.tb slot;have hac:=Yx w.nd.st slot;intro r;simp only[Cg,List.map_cons,List.map_nil,List.cons_append,List.nil_append,Nat.reduceAdd];refine FnS.Bw (enters_of Tryz.func89 (by kernel_rfl) rfl) Tryz.func89 rfl Tryz.ntmps89 Tryz.results89 rfl (by first|rfl|(simp only[A0,wfL,AH,wfs,Ae,Ad];rfl)) rfl fun E=>?_
 refine AJ ?_;show VC E _ (retL E (Hr Tryz.prog _ _ [(9100,.pin 100 (r 100)),(9101,.pin 101 (r 101)),(9102,.pin 102 (r 102)),(100,.box [.d (.int .i64 slot),.d (.int .i64 turns),.d nv,.d (lds loads),.d (sis sil),.row 102 arr.length]),(101,.box (Wk.cs (YZ slot turns arr w).2)),(102,.row 62 3 (rowOf Ar.enc arr))])) _;have hneg:¬(Ub w.nd.st.tb slot turns=true/\(advM w.nd.rk).2.2.2=0)->(YZ slot turns arr w).2=⟨w.nd,w.node,(Py w.nd.st slot).1,w.bc,w.rs,w.up⟩:=fun h=>by
  unfold YZ DF;rw[AgY h];dsimp only;rw[Bool.or_false]
 cases h1:Ub w.nd.st.tb slot turns with
 |false=>
  rw[h1] at hd;rw[hneg (fun h=>by rw[h1] at h;cases h.1)]
  repeat'(first|refine sB ?_|refine Ak rfl (by exact tt0) ?_|(refine gC ?_;first|refine Aa (hd) (gk rfl) rfl rfl rfl (by rfl) rfl (by rfl) rfl ?_|refine Aa (hac) (gk rfl) rfl rfl rfl (by rfl) rfl (by rfl) rfl ?_)|(refine gN ?_;first|refine Aj (gk rfl) rfl rfl ?_)|refine Ap (by kernel_rfl) ?_|(refine gD ?_;first|refine Ah rfl ?_)|fail)
  refine Ao (Am (l:=[]) (b:=[(9100,.pin 100 (r 100)),(9101,.pin 101 (r 101)),(9102,.pin 102 (r 102)),(100,.box [.d (.int .i64 slot),.d (.int .i64 turns),.d nv,.d (lds loads),.d (sis sil),.row 102 arr.length]),(101,.box (Wk.cs ⟨w.nd,w.node,(Py w.nd.st slot).1,w.bc,w.rs,w.up⟩)),(102,.row 62 3 (rowOf Ar.enc arr))]) (fun n=>n) ?_ ?_ rfl (by(simp only[wfL,wfs,Ae,Ad];rfl))) (DG BQ .nil rfl (by repeat'(first|exact tt0|refine⟨rfl,?_⟩)))
  all_goals repeat'(first|exact tt0|refine⟨⟨_,rfl,?_⟩,?_⟩|exact .Bs rfl rfl|exact .pin rfl|exact .Bc rfl Ag|refine .box ?_|exact .nil|refine .cons ?_ ?_|exact .d|exact .row rfl rfl|fail)
 |true=>
  rw[h1] at hd;by_cases h2:(advM w.nd.rk).2.2.2=0
  ·have d2:decide ((advM w.nd.rk).2.2.2=0)=true:=Agj h2;obtain⟨g1,g2⟩:=WE h2;have hmk:=XI w.nd.rk slot g1 g2 hs;have hpos:(YZ slot turns arr w).2=⟨⟨w.nd.st,(advM w.nd.rk).1,w.nd.nb,w.nd.next⟩,w.node,AeX 1 (atM w.nd.st.tb slot).1.offset (bcF w.nd.rk slot),true,w.rs,w.up⟩:=by
    unfold YZ DF;rw[AgZ ⟨h1,h2⟩];dsimp only;rw[Bool.or_true]
   rw[hpos]
   repeat'(first|refine sB ?_|refine Ak rfl (by exact tt0) ?_|(refine gC ?_;first|refine Aa (hd) (gk rfl) rfl rfl rfl (by rfl) rfl (by rfl) rfl ?_|refine Aa (ha) (gk rfl) rfl rfl rfl (by rfl) rfl (by rfl) rfl ?_|refine Aa (hmk) (gk rfl) rfl rfl rfl (by rfl) rfl (by rfl) rfl ?_|refine Aa (hat) (gk rfl) rfl rfl rfl (by rfl) rfl (by rfl) rfl ?_)|(refine gN ?_;first|refine Aj (gk rfl) rfl rfl ?_)|refine Ap (by kernel_rfl) ?_|(refine gD ?_;first|refine Ai rfl ?_|refine At rfl (by assumption) ?_)|fail)
   refine Ao (Am (l:=[]) (b:=[(9100,.pin 100 (r 100)),(9101,.pin 101 (r 101)),(9102,.pin 102 (r 102)),(100,.box [.d (.int .i64 slot),.d (.int .i64 turns),.d nv,.d (lds loads),.d (sis sil),.row 102 arr.length]),(101,.box (Wk.cs ⟨⟨w.nd.st,(advM w.nd.rk).1,w.nd.nb,w.nd.next⟩,w.node,AeX 1 (atM w.nd.st.tb slot).1.offset (bcF w.nd.rk slot),true,w.rs,w.up⟩)),(102,.row 62 3 (rowOf Ar.enc arr))]) (fun n=>n) ?_ ?_ rfl (by(simp only[wfL,wfs,Ae,Ad];rfl))) (DG Ab .nil rfl (by repeat'(first|exact tt0|refine⟨rfl,?_⟩)))
   all_goals repeat'(first|exact tt0|refine⟨⟨_,rfl,?_⟩,?_⟩|exact .Bs rfl rfl|exact .pin rfl|exact .Bc rfl Ag|refine .box ?_|exact .nil|refine .cons ?_ ?_|exact .d|exact .row rfl rfl|fail)
  ·have d2:decide ((advM w.nd.rk).2.2.2=0)=false:=Agk h2;rw[hneg (fun h=>h2 h.2)]
   repeat'(first|refine sB ?_|refine Ak rfl (by exact tt0) ?_|(refine gC ?_;first|refine Aa (hd) (gk rfl) rfl rfl rfl (by rfl) rfl (by rfl) rfl ?_|refine Aa (ha) (gk rfl) rfl rfl rfl (by rfl) rfl (by rfl) rfl ?_|refine Aa (hac) (gk rfl) rfl rfl rfl (by rfl) rfl (by rfl) rfl ?_)|(refine gN ?_;first|refine Aj (gk rfl) rfl rfl ?_)|refine Ap (by kernel_rfl) ?_|(refine gD ?_;first|refine Ai rfl ?_|refine Ah rfl ?_|refine At rfl (by assumption) ?_)|fail)
   refine Ao (Am (l:=[]) (b:=[(9100,.pin 100 (r 100)),(9101,.pin 101 (r 101)),(9102,.pin 102 (r 102)),(100,.box [.d (.int .i64 slot),.d (.int .i64 turns),.d nv,.d (lds loads),.d (sis sil),.row 102 arr.length]),(101,.box (Wk.cs ⟨w.nd,w.node,(Py w.nd.st slot).1,w.bc,w.rs,w.up⟩)),(102,.row 62 3 (rowOf Ar.enc arr))]) (fun n=>n) ?_ ?_ rfl (by(simp only[wfL,wfs,Ae,Ad];rfl))) (DG BQ .nil rfl (by repeat'(first|exact tt0|refine⟨rfl,?_⟩)))
   all_goals repeat'(first|exact tt0|refine⟨⟨_,rfl,?_⟩,?_⟩|exact .Bs rfl rfl|exact .pin rfl|exact .Bc rfl Ag|refine .box ?_|exact .nil|refine .cons ?_ ?_|exact .d|exact .row rfl rfl|fail)
end Go.Proofs.M
end
section
namespace Go.Proofs.M
open Go Go.Sx Go.Proofs Go.Proofs.T Go.Proofs.Q
open Go.Proofs.P (Nb nbs Rk rkA rkErr checkNb hearM countM forgetM select')
open Go.Proofs.R (startM advM)
set_option maxRecDepth 4000
attribute [local irreducible] VR VC thenQ blockQ retL
set_option maxHeartbeats 8000000 in
theorem S6 (slot turns:Int) (nv:D) (loads:List Ld) (sil:List Si) (arr:List Ar) (w:Wk):PhS 92 slot turns nv loads sil arr w (X5 slot arr w).2:=by
 have hh:=P.VB w.nd.nb w.rs.source w.rs.epoch w.rs.rank slot;intro r;simp only[Cg,List.map_cons,List.map_nil,List.cons_append,List.nil_append,Nat.reduceAdd];refine FnS.Bw (enters_of Tryz.func92 (by kernel_rfl) rfl) Tryz.func92 rfl Tryz.ntmps92 Tryz.results92 rfl (by first|rfl|(simp only[A0,wfL,AH,wfs,Ae,Ad];rfl)) rfl fun E=>?_
 refine AJ ?_;show VC E _ (retL E (Hr Tryz.prog _ _ [(9100,.pin 100 (r 100)),(9101,.pin 101 (r 101)),(9102,.pin 102 (r 102)),(100,.box [.d (.int .i64 slot),.d (.int .i64 turns),.d nv,.d (lds loads),.d (sis sil),.row 102 arr.length]),(101,.box (Wk.cs (Eh (Cu slot w)))),(102,.row 62 3 (rowOf Ar.enc arr))])) _
 repeat'(first|refine sR ?_|refine Ak rfl (by exact tt0) ?_|(refine gN ?_;first|refine Aj (gk rfl) rfl rfl ?_)|refine sq 1 rfl ?_|fail)
 refine VC.le (σ':=AS [(0,.c (.ptr 100 0)),(1,.c (.ptr 101 0)),(4,.c (.ptr 4 0))] [(9100,.pin 100 (r 100)),(9101,.pin 101 (r 101)),(9102,.pin 102 (r 102)),(100,.box [.d (.int .i64 slot),.d (.int .i64 turns),.d nv,.d (lds loads),.d (sis sil),.row 102 arr.length]),(101,.box (Wk.cs w)),(102,.row 62 3 (rowOf Ar.enc arr)),(4,.box (AcC w.rs).cs)]) ?_ ?_
 ·refine Am (fun n=>n) ?_ ?_ rfl (by(simp only[wfL,wfs,Ae,Ad];rfl))
  all_goals repeat'(first|exact tt0|refine⟨⟨_,rfl,?_⟩,?_⟩|exact .c (.ptr rfl)|exact .Bs rfl rfl|exact .pin rfl|exact .Bc rfl Ag|refine .box ?_|exact .nil|refine .cons ?_ ?_|exact .d|exact .row rfl rfl|fail)
 refine JX (AS [(0,.c (.ptr 100 0)),(1,.c (.ptr 101 0))] [(9100,.pin 100 (r 100)),(9101,.pin 101 (r 101)),(9102,.pin 102 (r 102)),(100,.box [.d (.int .i64 slot),.d (.int .i64 turns),.d nv,.d (lds loads),.d (sis sil),.row 102 arr.length]),(101,.box (Wk.cs (Cu slot w))),(102,.row 62 3 (rowOf Ar.enc arr))]) ?_ ?_
 ·cases h1:w.rs.heard with
  |false=>
   rw[show Cu slot w=w from AgY (fun h=>by rw[h1] at h;cases h.1)]
   repeat'(first|refine sB ?_|refine Ak rfl (by exact tt0) ?_|(refine gN ?_;first|refine Aj (gk rfl) rfl rfl ?_)|refine Az rfl (by assumption) ?_|(refine gD ?_;first|refine Ah rfl ?_)|fail)
   refine Am (fun n=>n) ?_ ?_ rfl (by(simp only[wfL,wfs,Ae,Ad];rfl))
   all_goals repeat'(first|exact tt0|refine⟨⟨_,rfl,?_⟩,?_⟩|exact .c (.ptr rfl)|exact .Bs rfl rfl|exact .pin rfl|exact .Bc rfl Ag|refine .box ?_|exact .nil|refine .cons ?_ ?_|exact .d|exact .row rfl rfl|fail)
  |true=>
   by_cases h2:w.rs.BF=3
   ·have d2:decide (w.rs.BF=3)=true:=Agj h2;by_cases h3:(hearM w.nd.nb w.rs.source w.rs.epoch w.rs.rank slot).2=0
    ·have d3:decide ((hearM w.nd.nb w.rs.source w.rs.epoch w.rs.rank slot).2=0)=true:=Agj h3;rw[show Cu slot w={w with nd:={w.nd with nb:=(hearM w.nd.nb w.rs.source w.rs.epoch w.rs.rank slot).1}} from AgZ ⟨h1,h2,h3⟩]
     repeat'(first|refine sB ?_|refine Ak rfl (by exact tt0) ?_|(refine gC ?_;first|refine Aa (hh) (gk rfl) rfl rfl rfl (by rfl) rfl (by rfl) rfl ?_)|(refine gN ?_;first|refine Aj (gk rfl) rfl rfl ?_)|refine Az rfl (by assumption) ?_|refine Ap (by kernel_rfl) ?_|(refine gD ?_;first|refine Ai rfl ?_|refine At rfl (by assumption) ?_)|fail)
     refine Am (fun n=>n) ?_ ?_ rfl (by(simp only[wfL,wfs,Ae,Ad];rfl))
     all_goals repeat'(first|exact tt0|refine⟨⟨_,rfl,?_⟩,?_⟩|exact .c (.ptr rfl)|exact .Bs rfl rfl|exact .pin rfl|exact .Bc rfl Ag|refine .box ?_|exact .nil|refine .cons ?_ ?_|exact .d|exact .row rfl rfl|fail)
    ·have d3:decide ((hearM w.nd.nb w.rs.source w.rs.epoch w.rs.rank slot).2=0)=false:=Agk h3;rw[show Cu slot w=w from AgY (fun h=>h3 h.2.2)]
     repeat'(first|refine sB ?_|refine Ak rfl (by exact tt0) ?_|(refine gC ?_;first|refine Aa (hh) (gk rfl) rfl rfl rfl (by rfl) rfl (by rfl) rfl ?_)|(refine gN ?_;first|refine Aj (gk rfl) rfl rfl ?_)|refine Az rfl (by assumption) ?_|refine Ap (by kernel_rfl) ?_|(refine gD ?_;first|refine Ai rfl ?_|refine Ah rfl ?_|refine At rfl (by assumption) ?_)|fail)
     refine Am (fun n=>n) ?_ ?_ rfl (by(simp only[wfL,wfs,Ae,Ad];rfl))
     all_goals repeat'(first|exact tt0|refine⟨⟨_,rfl,?_⟩,?_⟩|exact .c (.ptr rfl)|exact .Bs rfl rfl|exact .pin rfl|exact .Bc rfl Ag|refine .box ?_|exact .nil|refine .cons ?_ ?_|exact .d|exact .row rfl rfl|fail)
   ·have d2:decide (w.rs.BF=3)=false:=Agk h2;rw[show Cu slot w=w from AgY (fun h=>h2 h.2.1)]
    repeat'(first|refine sB ?_|refine Ak rfl (by exact tt0) ?_|(refine gN ?_;first|refine Aj (gk rfl) rfl rfl ?_)|refine Az rfl (by assumption) ?_|(refine gD ?_;first|refine Ah rfl ?_|refine At rfl (by assumption) ?_)|fail)
    refine Am (fun n=>n) ?_ ?_ rfl (by(simp only[wfL,wfs,Ae,Ad];rfl))
    all_goals repeat'(first|exact tt0|refine⟨⟨_,rfl,?_⟩,?_⟩|exact .c (.ptr rfl)|exact .Bs rfl rfl|exact .pin rfl|exact .Bc rfl Ag|refine .box ?_|exact .nil|refine .cons ?_ ?_|exact .d|exact .row rfl rfl|fail)
 generalize Cu slot w=v;have hc:=P.TO v.nd.nb v.ac.target v.rs.AT
 repeat'(first|refine sR ?_|refine Ak rfl (by exact tt0) ?_|(refine gN ?_;first|refine Aj (gk rfl) rfl rfl ?_)|refine sq 6 rfl ?_|fail)
 refine VC.le (σ':=AS [(0,.c (.ptr 100 0)),(1,.c (.ptr 101 0)),(7,.c (.ptr 7 0))] [(9100,.pin 100 (r 100)),(9101,.pin 101 (r 101)),(9102,.pin 102 (r 102)),(100,.box [.d (.int .i64 slot),.d (.int .i64 turns),.d nv,.d (lds loads),.d (sis sil),.row 102 arr.length]),(101,.box (Wk.cs v)),(102,.row 62 3 (rowOf Ar.enc arr)),(7,.box v.ac.cs)]) ?_ ?_
 ·refine Am (fun n=>n) ?_ ?_ rfl (by(simp only[wfL,wfs,Ae,Ad];rfl))
  all_goals repeat'(first|exact tt0|refine⟨⟨_,rfl,?_⟩,?_⟩|exact .c (.ptr rfl)|exact .Bs rfl rfl|exact .pin rfl|exact .Bc rfl Ag|refine .box ?_|exact .nil|refine .cons ?_ ?_|exact .d|exact .row rfl rfl|fail)
 by_cases k:v.ac.kind=1/\v.ac.BF=4/\0<=v.ac.target
 ·have e1:decide (v.ac.kind=1)=true:=Agj k.1;have e2:decide (v.ac.BF=4)=true:=Agj k.2.1;have e3:decide (0<=v.ac.target)=true:=Agj k.2.2;by_cases k4:(countM v.nd.nb v.ac.target v.rs.AT).2=0
  ·have e4:decide ((countM v.nd.nb v.ac.target v.rs.AT).2=0)=true:=Agj k4;rw[show Eh v={v with nd:={v.nd with nb:=(countM v.nd.nb v.ac.target v.rs.AT).1}} from AgZ ⟨k.1,k.2.1,k.2.2,k4⟩]
   repeat'(first|refine sB ?_|refine Ak rfl (by exact tt0) ?_|(refine gC ?_;first|refine Aa (hc) (gk rfl) rfl rfl rfl (by rfl) rfl (by rfl) rfl ?_)|(refine gN ?_;first|refine Aj (gk rfl) rfl rfl ?_)|refine Az rfl (by assumption) ?_|refine Ap (by kernel_rfl) ?_|(refine gD ?_;first|refine Ai rfl ?_|refine At rfl (by assumption) ?_)|fail)
   refine Ao (Am (l:=[]) (b:=[(9100,.pin 100 (r 100)),(9101,.pin 101 (r 101)),(9102,.pin 102 (r 102)),(100,.box [.d (.int .i64 slot),.d (.int .i64 turns),.d nv,.d (lds loads),.d (sis sil),.row 102 arr.length]),(101,.box (Wk.cs {v with nd:={v.nd with nb:=(countM v.nd.nb v.ac.target v.rs.AT).1}})),(102,.row 62 3 (rowOf Ar.enc arr))]) (fun n=>n) ?_ ?_ rfl (by(simp only[wfL,wfs,Ae,Ad];rfl))) (DG BQ .nil rfl (by repeat'(first|exact tt0|refine⟨rfl,?_⟩)))
   all_goals repeat'(first|exact tt0|refine⟨⟨_,rfl,?_⟩,?_⟩|exact .Bs rfl rfl|exact .pin rfl|exact .Bc rfl Ag|refine .box ?_|exact .nil|refine .cons ?_ ?_|exact .d|exact .row rfl rfl|fail)
  ·have e4:decide ((countM v.nd.nb v.ac.target v.rs.AT).2=0)=false:=Agk k4;rw[show Eh v=v from AgY (fun h=>k4 h.2.2.2)]
   repeat'(first|refine sB ?_|refine Ak rfl (by exact tt0) ?_|(refine gC ?_;first|refine Aa (hc) (gk rfl) rfl rfl rfl (by rfl) rfl (by rfl) rfl ?_)|(refine gN ?_;first|refine Aj (gk rfl) rfl rfl ?_)|refine Az rfl (by assumption) ?_|refine Ap (by kernel_rfl) ?_|(refine gD ?_;first|refine Ai rfl ?_|refine Ah rfl ?_|refine At rfl (by assumption) ?_)|fail)
   refine Ao (Am (l:=[]) (b:=[(9100,.pin 100 (r 100)),(9101,.pin 101 (r 101)),(9102,.pin 102 (r 102)),(100,.box [.d (.int .i64 slot),.d (.int .i64 turns),.d nv,.d (lds loads),.d (sis sil),.row 102 arr.length]),(101,.box (Wk.cs v)),(102,.row 62 3 (rowOf Ar.enc arr))]) (fun n=>n) ?_ ?_ rfl (by(simp only[wfL,wfs,Ae,Ad];rfl))) (DG BQ .nil rfl (by repeat'(first|exact tt0|refine⟨rfl,?_⟩)))
   all_goals repeat'(first|exact tt0|refine⟨⟨_,rfl,?_⟩,?_⟩|exact .Bs rfl rfl|exact .pin rfl|exact .Bc rfl Ag|refine .box ?_|exact .nil|refine .cons ?_ ?_|exact .d|exact .row rfl rfl|fail)
 ·rw[show Eh v=v from AgY (fun h=>k ⟨h.1,h.2.1,h.2.2.1⟩)]
  repeat'(first|refine sB ?_|refine Ak rfl (by exact tt0) ?_|(refine gN ?_;first|refine Aj (gk rfl) rfl rfl ?_)|(refine Ax rfl ?_ ?_<;>intro h<;>have hq:=h<;>(try simp only[hqs] at hq))|(refine gD ?_;first|refine Ah rfl ?_|(refine Ay rfl ?_ ?_<;>intro h<;>have hq:=h<;>(try simp only[hqs] at hq)))|fail)
  all_goals first
   |(exfalso;omega)
   |skip
  all_goals
   refine Ao (Am (l:=[]) (b:=[(9100,.pin 100 (r 100)),(9101,.pin 101 (r 101)),(9102,.pin 102 (r 102)),(100,.box [.d (.int .i64 slot),.d (.int .i64 turns),.d nv,.d (lds loads),.d (sis sil),.row 102 arr.length]),(101,.box (Wk.cs v)),(102,.row 62 3 (rowOf Ar.enc arr))]) (fun n=>n) ?_ ?_ rfl (by(simp only[wfL,wfs,Ae,Ad];rfl))) (DG BQ .nil rfl (by repeat'(first|exact tt0|refine⟨rfl,?_⟩)))
   all_goals repeat'(first|exact tt0|refine⟨⟨_,rfl,?_⟩,?_⟩|exact .Bs rfl rfl|exact .pin rfl|exact .Bc rfl Ag|refine .box ?_|exact .nil|refine .cons ?_ ?_|exact .d|exact .row rfl rfl|fail)
end Go.Proofs.M
end
section
namespace Go.Proofs.M
open Go Go.Sx Go.Proofs Go.Proofs.T Go.Proofs.Q
open Go.Proofs.P (Nb nbs Rk rkA rkErr checkNb hearM countM forgetM select')
open Go.Proofs.R (startM advM)
set_option maxRecDepth 4000
attribute [local irreducible] VR VC thenQ blockQ retL
def Kp (slot:Int) (loads:List Ld) (w:Wk) (k:Nat):MN:=CF slot w.node (loads.take k) w.nd
theorem Tj {slot:Int} {loads:List Ld} {w:Wk} {k:Nat} (hk:k<loads.length):Kp slot loads w (k+1)=if(loads.getD k default).slot=slot/\(loads.getD k default).node=w.node/\w.node≠0 then EY slot (Kp slot loads w k) (G2 w.node (Kp slot loads w k).next) else Kp slot loads w k:=by
 unfold Kp;rw[Ce hk,LL]
set_option maxHeartbeats 4000000 in
theorem S8 (slot turns:Int) (nv:D) (loads:List Ld) (sil:List Si) (arr:List Ar) (w:Wk) (hx:0<=w.nd.next/\w.nd.next<=65535) (hn:0<=w.node/\w.node<=31) (hl:loads.length<=100000):PhS 88 slot turns nv loads sil arr w (OV slot loads arr w).2:=by
 intro r;simp only[Cg,List.map_cons,List.map_nil,List.cons_append,List.nil_append,Nat.reduceAdd];refine FnS.Bw (enters_of Tryz.func88 (by kernel_rfl) rfl) Tryz.func88 rfl Tryz.ntmps88 Tryz.results88 rfl (by first|rfl|(simp only[A0,wfL,AH,wfs,Ae,Ad];rfl)) rfl fun E=>?_
 refine AJ ?_;show VC E _ (retL E (Hr Tryz.prog _ _ [(9100,.pin 100 (r 100)),(9101,.pin 101 (r 101)),(9102,.pin 102 (r 102)),(100,.box [.d (.int .i64 slot),.d (.int .i64 turns),.d nv,.d (lds loads),.d (sis sil),.row 102 arr.length]),(101,.box (Wk.cs {w with nd:=CF slot w.node loads w.nd})),(102,.row 62 3 (rowOf Ar.enc arr))])) _
 repeat'(first|refine sC ?_|refine Ak rfl (by exact tt0) ?_|(refine gN ?_;first|refine Aj (gk rfl) rfl rfl ?_)|fail)
 refine AK (ι:=Nat) (fun k=>AS [(0,.c (.ptr 100 0)),(1,.c (.ptr 101 0)),(9,AD (lds loads)),(10,AI loads.length),(11,AI k)] [(9100,.pin 100 (r 100)),(9101,.pin 101 (r 101)),(9102,.pin 102 (r 102)),(100,.box [.d (.int .i64 slot),.d (.int .i64 turns),.d nv,.d (lds loads),.d (sis sil),.row 102 arr.length]),(101,.box (Wk.cs {w with nd:=Kp slot loads w k})),(102,.row 62 3 (rowOf Ar.enc arr))])
  (fun k=>k<=loads.length) (fun k=>loads.length-k) 0 (Ag1 _) ?_ ?_
 ·refine Am (fun n=>n) ?_ ?_ rfl (by(simp only[wfL,wfs,Ae,Ad];rfl))
  all_goals repeat'(first|exact tt0|refine⟨⟨_,rfl,?_⟩,?_⟩|exact .c .d|exact .c (.ptr rfl)|exact .Bs rfl rfl|exact .pin rfl|exact .Bc rfl Ag|refine .box ?_|exact .nil|refine .cons ?_ ?_|exact .d|exact .row rfl rfl|fail)
 ·intro k hk;by_cases hc:k<loads.length
  ·have hdd:decide ((k:Int)<(loads.length:Int))=true:=Agj (by omega);have hs:=Tj (slot:=slot) (w:=w) hc;have hnx:0<=(Kp slot loads w k).next/\(Kp slot loads w k).next<=65535:=HY _ hx;generalize Kp slot loads w k=x at hs hnx ⊢;have hgi:=LB slot turns nv loads sil arr {w with nd:=x} (G2 w.node x.next) hnx;by_cases h1:(loads.getD k default).slot=slot
   ·have d1:decide ((loads.getD k default).slot=slot)=true:=Agj h1;by_cases h2:(loads.getD k default).node=w.node
    ·have d2:decide ((loads.getD k default).node=w.node)=true:=Agj h2;by_cases h3:w.node=0
     ·have d3:decide (w.node≠0)=false:=Agk (by simpa using h3);rw[AgY (fun h=>h.2.2 h3)] at hs
      repeat'(first|refine sC ?_|refine Ak rfl (by first|exact tt0|omega) ?_|(refine gI ?_;first|refine Au (gk rfl) rfl rfl rfl rfl rfl (by omega) rfl ?_)|(refine gN ?_;first|refine Aj (gk rfl) rfl rfl ?_)|refine Az rfl (by assumption) ?_|refine Ap (by kernel_rfl) ?_|(refine gD ?_;first|refine Ai rfl ?_|refine Ah rfl ?_|refine At rfl (by assumption) ?_)|fail)
      refine⟨k+1,by omega,by omega,?_⟩;rw[hs];refine Am (fun n=>n) ?_ ?_ rfl (by(simp only[wfL,wfs,Ae,Ad];rfl))
      all_goals repeat'(first|exact tt0|refine⟨⟨_,rfl,?_⟩,?_⟩|exact .c .d|exact .c (.ptr rfl)|exact .Bs rfl rfl|exact .pin rfl|exact .Bc rfl Ag|refine .box ?_|exact .nil|refine .cons ?_ ?_|exact .d|exact .row rfl rfl|fail)
     ·have d3:decide (w.node≠0)=true:=Agj h3;rw[AgZ ⟨h1,h2,h3⟩] at hs
      repeat'(first|(refine gR ?_;first|(refine gV ?_;first|refine Lo (L:=[w.node % 256,x.next/256 % 256,x.next % 256]) (gk rfl) rfl rfl (by rfl) rfl rfl rfl rfl ?_)|(show VR _ _ _ (⟨_,.binOp .shr _ _ _ _,_,_,_,_⟩ :: _) _ _ _;first|refine Ix (gk rfl) rfl rfl (by omega) (by decide) rfl ?_)|refine Ak rfl (by first|exact tt0|omega) ?_|(refine gC ?_;first|refine B4 (nmL []) [] [100,101,102] (hgi) (gk rfl) rfl rfl (by(repeat'(first|exact .nil|refine .cons ?_ ?_|exact .w (.c (.ptr rfl)) rfl|exact .r (.of0 (.c .d))))<;>fail) (by(repeat'(first|exact tt0|refine⟨⟨_,rfl,?_⟩,?_⟩|exact .Bs rfl rfl|exact .Bc rfl Ag|refine .box ?_|exact .nil|refine .cons ?_ ?_|exact .d|exact .row rfl rfl))<;>fail) rfl rfl rfl (by rfl) rfl (by(simp only[A0,wfL,AH,wfs,Ae,Ad];rfl)) rfl rfl rfl (by(simp only[F5,List.map_cons,List.map_nil,Blk.ren,C.ren,Bp,BU,BT,gW,D1,nmL,Nat.reduceBEq,Bool.or_false,Bool.or_true,Bool.false_or,Bool.true_or,cond_true,cond_false,Nat.reduceMul,Nat.reduceAdd])<;>rfl) (by(simp only[AV.ren,AV.HQ,List.map_cons,List.map_nil,C.ren,gW,D1,nmL,Nat.reduceBEq,Bool.or_false,Bool.or_true,Bool.false_or,Bool.true_or,cond_true,cond_false,Nat.reduceMul,Nat.reduceAdd])<;>rfl) rfl ?_)|(refine gI ?_;first|refine Au (gk rfl) rfl rfl rfl rfl rfl (by omega) rfl ?_)|(refine gN ?_;first|refine Aj (gk rfl) rfl rfl ?_)|(refine gV ?_;first|refine C3 (gk rfl) rfl ⟨_,rfl⟩ rfl rfl ?_)|refine Az rfl (by assumption) ?_)|(refine gO ?_;first|refine De ?_|refine Ap (by kernel_rfl) ?_)|(refine gT ?_;first|refine B1 ?_)|(refine gK ?_;first|refine Gj ?_)|refine BC ?_|refine Bg ?_|refine Cp ?_|(show VC _ (.cond _ _ _) _ _;first|refine Ai rfl ?_|refine At rfl (by assumption) ?_)|refine B0 ?_|refine EE ?_)
      refine⟨k+1,by omega,by omega,?_⟩;rw[hs];refine Am (fun n=>n) ?_ ?_ rfl (by(simp only[wfL,wfs,Ae,Ad];rfl))
      all_goals repeat'(first|exact tt0|refine⟨⟨_,rfl,?_⟩,?_⟩|exact .c .d|exact .c (.ptr rfl)|exact .Bs rfl rfl|exact .pin rfl|exact .Bc rfl Ag|refine .box ?_|exact .nil|refine .cons ?_ ?_|exact .d|exact .row rfl rfl|fail)
    ·have d2:decide ((loads.getD k default).node=w.node)=false:=Agk h2;rw[AgY (fun h=>h2 h.2.1)] at hs
     repeat'(first|refine sC ?_|refine Ak rfl (by first|exact tt0|omega) ?_|(refine gI ?_;first|refine Au (gk rfl) rfl rfl rfl rfl rfl (by omega) rfl ?_)|(refine gN ?_;first|refine Aj (gk rfl) rfl rfl ?_)|refine Az rfl (by assumption) ?_|refine Ap (by kernel_rfl) ?_|(refine gD ?_;first|refine Ai rfl ?_|refine Ah rfl ?_|refine At rfl (by assumption) ?_)|fail)
     refine⟨k+1,by omega,by omega,?_⟩;rw[hs];refine Am (fun n=>n) ?_ ?_ rfl (by(simp only[wfL,wfs,Ae,Ad];rfl))
     all_goals repeat'(first|exact tt0|refine⟨⟨_,rfl,?_⟩,?_⟩|exact .c .d|exact .c (.ptr rfl)|exact .Bs rfl rfl|exact .pin rfl|exact .Bc rfl Ag|refine .box ?_|exact .nil|refine .cons ?_ ?_|exact .d|exact .row rfl rfl|fail)
   ·have d1:decide ((loads.getD k default).slot=slot)=false:=Agk h1;rw[AgY (fun h=>h1 h.1)] at hs
    repeat'(first|refine sC ?_|refine Ak rfl (by first|exact tt0|omega) ?_|(refine gI ?_;first|refine Au (gk rfl) rfl rfl rfl rfl rfl (by omega) rfl ?_)|(refine gN ?_;first|refine Aj (gk rfl) rfl rfl ?_)|refine Az rfl (by assumption) ?_|refine Ap (by kernel_rfl) ?_|(refine gD ?_;first|refine Ai rfl ?_|refine Ah rfl ?_|refine At rfl (by assumption) ?_)|fail)
    refine⟨k+1,by omega,by omega,?_⟩;rw[hs];refine Am (fun n=>n) ?_ ?_ rfl (by(simp only[wfL,wfs,Ae,Ad];rfl))
    all_goals repeat'(first|exact tt0|refine⟨⟨_,rfl,?_⟩,?_⟩|exact .c .d|exact .c (.ptr rfl)|exact .Bs rfl rfl|exact .pin rfl|exact .Bc rfl Ag|refine .box ?_|exact .nil|refine .cons ?_ ?_|exact .d|exact .row rfl rfl|fail)
  ·have hdd:decide ((k:Int)<(loads.length:Int))=false:=Agk (by omega);have e:Kp slot loads w k=CF slot w.node loads w.nd:=by unfold Kp;rw[AgP (by omega)]
   rw[e]
   repeat'(first|refine sB ?_|refine Ak rfl (by exact tt0) ?_|(refine gD ?_;first|refine Ah rfl ?_|refine At rfl (by assumption) ?_)|fail)
   refine Ao (Am (l:=[]) (b:=[(9100,.pin 100 (r 100)),(9101,.pin 101 (r 101)),(9102,.pin 102 (r 102)),(100,.box [.d (.int .i64 slot),.d (.int .i64 turns),.d nv,.d (lds loads),.d (sis sil),.row 102 arr.length]),(101,.box (Wk.cs {w with nd:=CF slot w.node loads w.nd})),(102,.row 62 3 (rowOf Ar.enc arr))]) (fun n=>n) ?_ ?_ rfl (by(simp only[wfL,wfs,Ae,Ad];rfl))) (DG BQ .nil rfl (by repeat'(first|exact tt0|refine⟨rfl,?_⟩)))
   all_goals repeat'(first|exact tt0|refine⟨⟨_,rfl,?_⟩,?_⟩|exact .Bs rfl rfl|exact .pin rfl|exact .Bc rfl Ag|refine .box ?_|exact .nil|refine .cons ?_ ?_|exact .d|exact .row rfl rfl|fail)
end Go.Proofs.M
end
