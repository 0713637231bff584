/-
  What functions of the program hand back, and plain laws on that. No condition.
-/
import Derived.Test.YtdlcbilgemnomaaGreatSxMah
import Derived.Test.YtdlcbilgemnomaaGreatSxMaj
import Derived.Test.YtdlcbilgemnomaaGreatSxMad
import Derived.Test.YtdlcbilgemnomaaGreatSxLibC
import Derived.Test.YtdlcbilgemnomaaGreatSxMai
import Derived.Test.YtdlcbilgemnomaaGreatSxMaa
import Derived.Test.YtdlcbilgemnomaaGreatSxMab
import Derived.Test.YtdlcbilgemnomaaGreatSxMag
set_option linter.unusedSimpArgs false
set_option linter.unusedVariables false
section
namespace Go.Proofs.M
open Go Go.Sx Go.Proofs Go.Proofs.T Go.Proofs.Q
open Go.Proofs.P (Nb nbs Rk rkA rkErr checkNb hearM countM forgetM select')
open Go.Proofs.R (startM advM)
set_option maxRecDepth 4000
attribute [local irreducible] VR VC thenQ blockQ retL
set_option maxHeartbeats 8000000 in
theorem R5 (slot turns:Int) (nv:D) (loads:List Ld) (sil:List Si) (arr:List Ar) (w:Wk):PhS 92 slot turns nv loads sil arr w (Xb slot arr w).2:=by
 have hh:=P.UG w.nd.nb w.rs.source w.rs.epoch w.rs.rank slot;intro r;simp only[Cd,List.map_cons,List.map_nil,List.cons_append,List.nil_append,Nat.reduceAdd];refine FnS.Bu (enters_of Tryz.func92 (by kernel_rfl) rfl) Tryz.func92 rfl Tryz.ntmps92 Tryz.results92 rfl (by first|rfl|(simp only[AZ,wfL,AH,wfs,Ae,Ad];rfl)) rfl fun E=>?_
 refine AK ?_;show VC E _ (retL E (Hm Tryz.prog _ _ [(9100,.pin 100 (r 100)),(9101,.pin 101 (r 101)),(9102,.pin 102 (r 102)),(100,.box [.d (.int .i64 slot),.d (.int .i64 turns),.d nv,.d (lds loads),.d (sis sil),.row 102 arr.length]),(101,.box (Wk.cs (Gj (EC slot w)))),(102,.row 62 3 (rowOf Ar.enc arr))])) _
 repeat'(first|refine sR ?_|refine Aj rfl (by exact tt0) ?_|(refine gN ?_;first|refine Ak (gk rfl) rfl rfl ?_)|refine sq 1 rfl ?_|fail)
 refine VC.le (σ':=AS [(0,.c (.ptr 100 0)),(1,.c (.ptr 101 0)),(4,.c (.ptr 4 0))] [(9100,.pin 100 (r 100)),(9101,.pin 101 (r 101)),(9102,.pin 102 (r 102)),(100,.box [.d (.int .i64 slot),.d (.int .i64 turns),.d nv,.d (lds loads),.d (sis sil),.row 102 arr.length]),(101,.box (Wk.cs w)),(102,.row 62 3 (rowOf Ar.enc arr)),(4,.box (AcZ w.rs).cs)]) ?_ ?_
 ·refine Am (fun n=>n) ?_ ?_ rfl (by(simp only[wfL,wfs,Ae,Ad];rfl))
  all_goals repeat'(first|exact tt0|refine⟨⟨_,rfl,?_⟩,?_⟩|exact .c (.ptr rfl)|exact .Bh rfl rfl|exact .pin rfl|exact .Bc rfl Ai|refine .box ?_|exact .nil|refine .cons ?_ ?_|exact .d|exact .row rfl rfl|fail)
 refine JI (AS [(0,.c (.ptr 100 0)),(1,.c (.ptr 101 0))] [(9100,.pin 100 (r 100)),(9101,.pin 101 (r 101)),(9102,.pin 102 (r 102)),(100,.box [.d (.int .i64 slot),.d (.int .i64 turns),.d nv,.d (lds loads),.d (sis sil),.row 102 arr.length]),(101,.box (Wk.cs (EC slot w))),(102,.row 62 3 (rowOf Ar.enc arr))]) ?_ ?_
 ·cases h1:w.rs.heard with
  |false=>
   rw[show EC slot w=w from AeS (fun h=>by rw[h1] at h;cases h.1)]
   repeat'(first|refine sB ?_|refine Aj rfl (by exact tt0) ?_|(refine gN ?_;first|refine Ak (gk rfl) rfl rfl ?_)|refine Az rfl (by assumption) ?_|(refine gD ?_;first|refine Ag rfl ?_)|fail)
   refine Am (fun n=>n) ?_ ?_ rfl (by(simp only[wfL,wfs,Ae,Ad];rfl))
   all_goals repeat'(first|exact tt0|refine⟨⟨_,rfl,?_⟩,?_⟩|exact .c (.ptr rfl)|exact .Bh rfl rfl|exact .pin rfl|exact .Bc rfl Ai|refine .box ?_|exact .nil|refine .cons ?_ ?_|exact .d|exact .row rfl rfl|fail)
  |true=>
   by_cases h2:w.rs.B1=3
   ·have d2:decide (w.rs.B1=3)=true:=Aed h2;by_cases h3:(hearM w.nd.nb w.rs.source w.rs.epoch w.rs.rank slot).2=0
    ·have d3:decide ((hearM w.nd.nb w.rs.source w.rs.epoch w.rs.rank slot).2=0)=true:=Aed h3;rw[show EC slot w={w with nd:={w.nd with nb:=(hearM w.nd.nb w.rs.source w.rs.epoch w.rs.rank slot).1}} from AeT ⟨h1,h2,h3⟩]
     repeat'(first|refine sB ?_|refine Aj rfl (by exact tt0) ?_|(refine gC ?_;first|refine Aa (hh) (gk rfl) rfl rfl rfl (by rfl) rfl (by rfl) rfl ?_)|(refine gN ?_;first|refine Ak (gk rfl) rfl rfl ?_)|refine Az rfl (by assumption) ?_|refine Ap (by kernel_rfl) ?_|(refine gD ?_;first|refine Ah rfl ?_|refine At rfl (by assumption) ?_)|fail)
     refine Am (fun n=>n) ?_ ?_ rfl (by(simp only[wfL,wfs,Ae,Ad];rfl))
     all_goals repeat'(first|exact tt0|refine⟨⟨_,rfl,?_⟩,?_⟩|exact .c (.ptr rfl)|exact .Bh rfl rfl|exact .pin rfl|exact .Bc rfl Ai|refine .box ?_|exact .nil|refine .cons ?_ ?_|exact .d|exact .row rfl rfl|fail)
    ·have d3:decide ((hearM w.nd.nb w.rs.source w.rs.epoch w.rs.rank slot).2=0)=false:=Aee h3;rw[show EC slot w=w from AeS (fun h=>h3 h.2.2)]
     repeat'(first|refine sB ?_|refine Aj rfl (by exact tt0) ?_|(refine gC ?_;first|refine Aa (hh) (gk rfl) rfl rfl rfl (by rfl) rfl (by rfl) rfl ?_)|(refine gN ?_;first|refine Ak (gk rfl) rfl rfl ?_)|refine Az rfl (by assumption) ?_|refine Ap (by kernel_rfl) ?_|(refine gD ?_;first|refine Ah rfl ?_|refine Ag rfl ?_|refine At rfl (by assumption) ?_)|fail)
     refine Am (fun n=>n) ?_ ?_ rfl (by(simp only[wfL,wfs,Ae,Ad];rfl))
     all_goals repeat'(first|exact tt0|refine⟨⟨_,rfl,?_⟩,?_⟩|exact .c (.ptr rfl)|exact .Bh rfl rfl|exact .pin rfl|exact .Bc rfl Ai|refine .box ?_|exact .nil|refine .cons ?_ ?_|exact .d|exact .row rfl rfl|fail)
   ·have d2:decide (w.rs.B1=3)=false:=Aee h2;rw[show EC slot w=w from AeS (fun h=>h2 h.2.1)]
    repeat'(first|refine sB ?_|refine Aj rfl (by exact tt0) ?_|(refine gN ?_;first|refine Ak (gk rfl) rfl rfl ?_)|refine Az rfl (by assumption) ?_|(refine gD ?_;first|refine Ag rfl ?_|refine At rfl (by assumption) ?_)|fail)
    refine Am (fun n=>n) ?_ ?_ rfl (by(simp only[wfL,wfs,Ae,Ad];rfl))
    all_goals repeat'(first|exact tt0|refine⟨⟨_,rfl,?_⟩,?_⟩|exact .c (.ptr rfl)|exact .Bh rfl rfl|exact .pin rfl|exact .Bc rfl Ai|refine .box ?_|exact .nil|refine .cons ?_ ?_|exact .d|exact .row rfl rfl|fail)
 generalize EC slot w=v;have hc:=P.SR v.nd.nb v.ac.target v.rs.AQ
 repeat'(first|refine sR ?_|refine Aj rfl (by exact tt0) ?_|(refine gN ?_;first|refine Ak (gk rfl) rfl rfl ?_)|refine sq 6 rfl ?_|fail)
 refine VC.le (σ':=AS [(0,.c (.ptr 100 0)),(1,.c (.ptr 101 0)),(7,.c (.ptr 7 0))] [(9100,.pin 100 (r 100)),(9101,.pin 101 (r 101)),(9102,.pin 102 (r 102)),(100,.box [.d (.int .i64 slot),.d (.int .i64 turns),.d nv,.d (lds loads),.d (sis sil),.row 102 arr.length]),(101,.box (Wk.cs v)),(102,.row 62 3 (rowOf Ar.enc arr)),(7,.box v.ac.cs)]) ?_ ?_
 ·refine Am (fun n=>n) ?_ ?_ rfl (by(simp only[wfL,wfs,Ae,Ad];rfl))
  all_goals repeat'(first|exact tt0|refine⟨⟨_,rfl,?_⟩,?_⟩|exact .c (.ptr rfl)|exact .Bh rfl rfl|exact .pin rfl|exact .Bc rfl Ai|refine .box ?_|exact .nil|refine .cons ?_ ?_|exact .d|exact .row rfl rfl|fail)
 by_cases k:v.ac.kind=1/\v.ac.B1=4/\0<=v.ac.target
 ·have e1:decide (v.ac.kind=1)=true:=Aed k.1;have e2:decide (v.ac.B1=4)=true:=Aed k.2.1;have e3:decide (0<=v.ac.target)=true:=Aed k.2.2;by_cases k4:(countM v.nd.nb v.ac.target v.rs.AQ).2=0
  ·have e4:decide ((countM v.nd.nb v.ac.target v.rs.AQ).2=0)=true:=Aed k4;rw[show Gj v={v with nd:={v.nd with nb:=(countM v.nd.nb v.ac.target v.rs.AQ).1}} from AeT ⟨k.1,k.2.1,k.2.2,k4⟩]
   repeat'(first|refine sB ?_|refine Aj rfl (by exact tt0) ?_|(refine gC ?_;first|refine Aa (hc) (gk rfl) rfl rfl rfl (by rfl) rfl (by rfl) rfl ?_)|(refine gN ?_;first|refine Ak (gk rfl) rfl rfl ?_)|refine Az rfl (by assumption) ?_|refine Ap (by kernel_rfl) ?_|(refine gD ?_;first|refine Ah rfl ?_|refine At rfl (by assumption) ?_)|fail)
   refine An (Am (l:=[]) (b:=[(9100,.pin 100 (r 100)),(9101,.pin 101 (r 101)),(9102,.pin 102 (r 102)),(100,.box [.d (.int .i64 slot),.d (.int .i64 turns),.d nv,.d (lds loads),.d (sis sil),.row 102 arr.length]),(101,.box (Wk.cs {v with nd:={v.nd with nb:=(countM v.nd.nb v.ac.target v.rs.AQ).1}})),(102,.row 62 3 (rowOf Ar.enc arr))]) (fun n=>n) ?_ ?_ rfl (by(simp only[wfL,wfs,Ae,Ad];rfl))) (Ds BO .nil rfl (by repeat'(first|exact tt0|refine⟨rfl,?_⟩)))
   all_goals repeat'(first|exact tt0|refine⟨⟨_,rfl,?_⟩,?_⟩|exact .Bh rfl rfl|exact .pin rfl|exact .Bc rfl Ai|refine .box ?_|exact .nil|refine .cons ?_ ?_|exact .d|exact .row rfl rfl|fail)
  ·have e4:decide ((countM v.nd.nb v.ac.target v.rs.AQ).2=0)=false:=Aee k4;rw[show Gj v=v from AeS (fun h=>k4 h.2.2.2)]
   repeat'(first|refine sB ?_|refine Aj rfl (by exact tt0) ?_|(refine gC ?_;first|refine Aa (hc) (gk rfl) rfl rfl rfl (by rfl) rfl (by rfl) rfl ?_)|(refine gN ?_;first|refine Ak (gk rfl) rfl rfl ?_)|refine Az rfl (by assumption) ?_|refine Ap (by kernel_rfl) ?_|(refine gD ?_;first|refine Ah rfl ?_|refine Ag rfl ?_|refine At rfl (by assumption) ?_)|fail)
   refine An (Am (l:=[]) (b:=[(9100,.pin 100 (r 100)),(9101,.pin 101 (r 101)),(9102,.pin 102 (r 102)),(100,.box [.d (.int .i64 slot),.d (.int .i64 turns),.d nv,.d (lds loads),.d (sis sil),.row 102 arr.length]),(101,.box (Wk.cs v)),(102,.row 62 3 (rowOf Ar.enc arr))]) (fun n=>n) ?_ ?_ rfl (by(simp only[wfL,wfs,Ae,Ad];rfl))) (Ds BO .nil rfl (by repeat'(first|exact tt0|refine⟨rfl,?_⟩)))
   all_goals repeat'(first|exact tt0|refine⟨⟨_,rfl,?_⟩,?_⟩|exact .Bh rfl rfl|exact .pin rfl|exact .Bc rfl Ai|refine .box ?_|exact .nil|refine .cons ?_ ?_|exact .d|exact .row rfl rfl|fail)
 ·rw[show Gj v=v from AeS (fun h=>k ⟨h.1,h.2.1,h.2.2.1⟩)]
  repeat'(first|refine sB ?_|refine Aj rfl (by exact tt0) ?_|(refine gN ?_;first|refine Ak (gk rfl) rfl rfl ?_)|(refine Ax rfl ?_ ?_<;>intro h<;>have hq:=h<;>(try simp only[hqs] at hq))|(refine gD ?_;first|refine Ag rfl ?_|(refine Ay rfl ?_ ?_<;>intro h<;>have hq:=h<;>(try simp only[hqs] at hq)))|fail)
  all_goals first
   |(exfalso;omega)
   |skip
  all_goals
   refine An (Am (l:=[]) (b:=[(9100,.pin 100 (r 100)),(9101,.pin 101 (r 101)),(9102,.pin 102 (r 102)),(100,.box [.d (.int .i64 slot),.d (.int .i64 turns),.d nv,.d (lds loads),.d (sis sil),.row 102 arr.length]),(101,.box (Wk.cs v)),(102,.row 62 3 (rowOf Ar.enc arr))]) (fun n=>n) ?_ ?_ rfl (by(simp only[wfL,wfs,Ae,Ad];rfl))) (Ds BO .nil rfl (by repeat'(first|exact tt0|refine⟨rfl,?_⟩)))
   all_goals repeat'(first|exact tt0|refine⟨⟨_,rfl,?_⟩,?_⟩|exact .Bh rfl rfl|exact .pin rfl|exact .Bc rfl Ai|refine .box ?_|exact .nil|refine .cons ?_ ?_|exact .d|exact .row rfl rfl|fail)
end Go.Proofs.M
end
section
namespace Go.Proofs.M
open Go Go.Sx Go.Proofs Go.Proofs.T Go.Proofs.Q
open Go.Proofs.P (Nb nbs Rk rkA rkErr checkNb hearM countM forgetM select')
open Go.Proofs.R (startM advM)
set_option maxRecDepth 4000
attribute [local irreducible] VR VC thenQ blockQ retL
def J8 (slot:Int) (loads:List Ld) (w:Wk) (k:Nat):MN:=Eh slot w.node (loads.take k) w.nd
theorem Sk {slot:Int} {loads:List Ld} {w:Wk} {k:Nat} (hk:k<loads.length):J8 slot loads w (k+1)=if(loads.getD k default).slot=slot/\(loads.getD k default).node=w.node/\w.node≠0 then Hr slot (J8 slot loads w k) (Xk w.node (J8 slot loads w k).next) else J8 slot loads w k:=by
 unfold J8;rw[Co hk,Lr]
set_option maxHeartbeats 4000000 in
theorem R7 (slot turns:Int) (nv:D) (loads:List Ld) (sil:List Si) (arr:List Ar) (w:Wk) (hx:0<=w.nd.next/\w.nd.next<=65535) (hn:0<=w.node/\w.node<=31) (hl:loads.length<=100000):PhS 88 slot turns nv loads sil arr w (U5 slot loads arr w).2:=by
 intro r;simp only[Cd,List.map_cons,List.map_nil,List.cons_append,List.nil_append,Nat.reduceAdd];refine FnS.Bu (enters_of Tryz.func88 (by kernel_rfl) rfl) Tryz.func88 rfl Tryz.ntmps88 Tryz.results88 rfl (by first|rfl|(simp only[AZ,wfL,AH,wfs,Ae,Ad];rfl)) rfl fun E=>?_
 refine AK ?_;show VC E _ (retL E (Hm Tryz.prog _ _ [(9100,.pin 100 (r 100)),(9101,.pin 101 (r 101)),(9102,.pin 102 (r 102)),(100,.box [.d (.int .i64 slot),.d (.int .i64 turns),.d nv,.d (lds loads),.d (sis sil),.row 102 arr.length]),(101,.box (Wk.cs {w with nd:=Eh slot w.node loads w.nd})),(102,.row 62 3 (rowOf Ar.enc arr))])) _
 repeat'(first|refine sC ?_|refine Aj rfl (by exact tt0) ?_|(refine gN ?_;first|refine Ak (gk rfl) rfl rfl ?_)|fail)
 refine AA (ι:=Nat) (fun k=>AS [(0,.c (.ptr 100 0)),(1,.c (.ptr 101 0)),(9,AD (lds loads)),(10,AI loads.length),(11,AI k)] [(9100,.pin 100 (r 100)),(9101,.pin 101 (r 101)),(9102,.pin 102 (r 102)),(100,.box [.d (.int .i64 slot),.d (.int .i64 turns),.d nv,.d (lds loads),.d (sis sil),.row 102 arr.length]),(101,.box (Wk.cs {w with nd:=J8 slot loads w k})),(102,.row 62 3 (rowOf Ar.enc arr))])
  (fun k=>k<=loads.length) (fun k=>loads.length-k) 0 (AeV _) ?_ ?_
 ·refine Am (fun n=>n) ?_ ?_ rfl (by(simp only[wfL,wfs,Ae,Ad];rfl))
  all_goals repeat'(first|exact tt0|refine⟨⟨_,rfl,?_⟩,?_⟩|exact .c .d|exact .c (.ptr rfl)|exact .Bh rfl rfl|exact .pin rfl|exact .Bc rfl Ai|refine .box ?_|exact .nil|refine .cons ?_ ?_|exact .d|exact .row rfl rfl|fail)
 ·intro k hk;by_cases hc:k<loads.length
  ·have hdd:decide ((k:Int)<(loads.length:Int))=true:=Aed (by omega);have hs:=Sk (slot:=slot) (w:=w) hc;have hnx:0<=(J8 slot loads w k).next/\(J8 slot loads w k).next<=65535:=HS _ hx;generalize J8 slot loads w k=x at hs hnx ⊢;have hgi:=Lh slot turns nv loads sil arr {w with nd:=x} (Xk w.node x.next) hnx;by_cases h1:(loads.getD k default).slot=slot
   ·have d1:decide ((loads.getD k default).slot=slot)=true:=Aed h1;by_cases h2:(loads.getD k default).node=w.node
    ·have d2:decide ((loads.getD k default).node=w.node)=true:=Aed h2;by_cases h3:w.node=0
     ·have d3:decide (w.node≠0)=false:=Aee (by simpa using h3);rw[AeS (fun h=>h.2.2 h3)] at hs
      repeat'(first|refine sC ?_|refine Aj rfl (by first|exact tt0|omega) ?_|(refine gI ?_;first|refine Aq (gk rfl) rfl rfl rfl rfl rfl (by omega) rfl ?_)|(refine gN ?_;first|refine Ak (gk rfl) rfl rfl ?_)|refine Az rfl (by assumption) ?_|refine Ap (by kernel_rfl) ?_|(refine gD ?_;first|refine Ah rfl ?_|refine Ag rfl ?_|refine At rfl (by assumption) ?_)|fail)
      refine⟨k+1,by omega,by omega,?_⟩;rw[hs];refine Am (fun n=>n) ?_ ?_ rfl (by(simp only[wfL,wfs,Ae,Ad];rfl))
      all_goals repeat'(first|exact tt0|refine⟨⟨_,rfl,?_⟩,?_⟩|exact .c .d|exact .c (.ptr rfl)|exact .Bh rfl rfl|exact .pin rfl|exact .Bc rfl Ai|refine .box ?_|exact .nil|refine .cons ?_ ?_|exact .d|exact .row rfl rfl|fail)
     ·have d3:decide (w.node≠0)=true:=Aed h3;rw[AeT ⟨h1,h2,h3⟩] at hs
      repeat'(first|(refine gR ?_;first|(refine gV ?_;first|refine K4 (L:=[w.node % 256,x.next/256 % 256,x.next % 256]) (gk rfl) rfl rfl (by rfl) rfl rfl rfl rfl ?_)|(show VR _ _ _ (⟨_,.binOp .shr _ _ _ _,_,_,_,_⟩ :: _) _ _ _;first|refine Io (gk rfl) rfl rfl (by omega) (by decide) rfl ?_)|refine Aj rfl (by first|exact tt0|omega) ?_|(refine gC ?_;first|refine B5 (nmL []) [] [100,101,102] (hgi) (gk rfl) rfl rfl (by(repeat'(first|exact .nil|refine .cons ?_ ?_|exact .w (.c (.ptr rfl)) rfl|exact .r (.of0 (.c .d))))<;>fail) (by(repeat'(first|exact tt0|refine⟨⟨_,rfl,?_⟩,?_⟩|exact .Bh rfl rfl|exact .Bc rfl Ai|refine .box ?_|exact .nil|refine .cons ?_ ?_|exact .d|exact .row rfl rfl))<;>fail) rfl rfl rfl (by rfl) rfl (by(simp only[AZ,wfL,AH,wfs,Ae,Ad];rfl)) rfl rfl rfl (by(simp only[F2,List.map_cons,List.map_nil,Blk.ren,C.ren,Bw,B0,BZ,gW,D8,nmL,Nat.reduceBEq,Bool.or_false,Bool.or_true,Bool.false_or,Bool.true_or,cond_true,cond_false,Nat.reduceMul,Nat.reduceAdd])<;>rfl) (by(simp only[AV.ren,AV.Ik,List.map_cons,List.map_nil,C.ren,gW,D8,nmL,Nat.reduceBEq,Bool.or_false,Bool.or_true,Bool.false_or,Bool.true_or,cond_true,cond_false,Nat.reduceMul,Nat.reduceAdd])<;>rfl) rfl ?_)|(refine gI ?_;first|refine Aq (gk rfl) rfl rfl rfl rfl rfl (by omega) rfl ?_)|(refine gN ?_;first|refine Ak (gk rfl) rfl rfl ?_)|(refine gV ?_;first|refine CX (gk rfl) rfl ⟨_,rfl⟩ rfl rfl ?_)|refine Az rfl (by assumption) ?_)|(refine gO ?_;first|refine C7 ?_|refine Ap (by kernel_rfl) ?_)|(refine gT ?_;first|refine BX ?_)|(refine gK ?_;first|refine Gg ?_)|refine BB ?_|refine Be ?_|refine Cp ?_|(show VC _ (.cond _ _ _) _ _;first|refine Ah rfl ?_|refine At rfl (by assumption) ?_)|refine BV ?_|refine Ex ?_)
      refine⟨k+1,by omega,by omega,?_⟩;rw[hs];refine Am (fun n=>n) ?_ ?_ rfl (by(simp only[wfL,wfs,Ae,Ad];rfl))
      all_goals repeat'(first|exact tt0|refine⟨⟨_,rfl,?_⟩,?_⟩|exact .c .d|exact .c (.ptr rfl)|exact .Bh rfl rfl|exact .pin rfl|exact .Bc rfl Ai|refine .box ?_|exact .nil|refine .cons ?_ ?_|exact .d|exact .row rfl rfl|fail)
    ·have d2:decide ((loads.getD k default).node=w.node)=false:=Aee h2;rw[AeS (fun h=>h2 h.2.1)] at hs
     repeat'(first|refine sC ?_|refine Aj rfl (by first|exact tt0|omega) ?_|(refine gI ?_;first|refine Aq (gk rfl) rfl rfl rfl rfl rfl (by omega) rfl ?_)|(refine gN ?_;first|refine Ak (gk rfl) rfl rfl ?_)|refine Az rfl (by assumption) ?_|refine Ap (by kernel_rfl) ?_|(refine gD ?_;first|refine Ah rfl ?_|refine Ag rfl ?_|refine At rfl (by assumption) ?_)|fail)
     refine⟨k+1,by omega,by omega,?_⟩;rw[hs];refine Am (fun n=>n) ?_ ?_ rfl (by(simp only[wfL,wfs,Ae,Ad];rfl))
     all_goals repeat'(first|exact tt0|refine⟨⟨_,rfl,?_⟩,?_⟩|exact .c .d|exact .c (.ptr rfl)|exact .Bh rfl rfl|exact .pin rfl|exact .Bc rfl Ai|refine .box ?_|exact .nil|refine .cons ?_ ?_|exact .d|exact .row rfl rfl|fail)
   ·have d1:decide ((loads.getD k default).slot=slot)=false:=Aee h1;rw[AeS (fun h=>h1 h.1)] at hs
    repeat'(first|refine sC ?_|refine Aj rfl (by first|exact tt0|omega) ?_|(refine gI ?_;first|refine Aq (gk rfl) rfl rfl rfl rfl rfl (by omega) rfl ?_)|(refine gN ?_;first|refine Ak (gk rfl) rfl rfl ?_)|refine Az rfl (by assumption) ?_|refine Ap (by kernel_rfl) ?_|(refine gD ?_;first|refine Ah rfl ?_|refine Ag rfl ?_|refine At rfl (by assumption) ?_)|fail)
    refine⟨k+1,by omega,by omega,?_⟩;rw[hs];refine Am (fun n=>n) ?_ ?_ rfl (by(simp only[wfL,wfs,Ae,Ad];rfl))
    all_goals repeat'(first|exact tt0|refine⟨⟨_,rfl,?_⟩,?_⟩|exact .c .d|exact .c (.ptr rfl)|exact .Bh rfl rfl|exact .pin rfl|exact .Bc rfl Ai|refine .box ?_|exact .nil|refine .cons ?_ ?_|exact .d|exact .row rfl rfl|fail)
  ·have hdd:decide ((k:Int)<(loads.length:Int))=false:=Aee (by omega);have e:J8 slot loads w k=Eh slot w.node loads w.nd:=by unfold J8;rw[AeK (by omega)]
   rw[e]
   repeat'(first|refine sB ?_|refine Aj rfl (by exact tt0) ?_|(refine gD ?_;first|refine Ag rfl ?_|refine At rfl (by assumption) ?_)|fail)
   refine An (Am (l:=[]) (b:=[(9100,.pin 100 (r 100)),(9101,.pin 101 (r 101)),(9102,.pin 102 (r 102)),(100,.box [.d (.int .i64 slot),.d (.int .i64 turns),.d nv,.d (lds loads),.d (sis sil),.row 102 arr.length]),(101,.box (Wk.cs {w with nd:=Eh slot w.node loads w.nd})),(102,.row 62 3 (rowOf Ar.enc arr))]) (fun n=>n) ?_ ?_ rfl (by(simp only[wfL,wfs,Ae,Ad];rfl))) (Ds BO .nil rfl (by repeat'(first|exact tt0|refine⟨rfl,?_⟩)))
   all_goals repeat'(first|exact tt0|refine⟨⟨_,rfl,?_⟩,?_⟩|exact .Bh rfl rfl|exact .pin rfl|exact .Bc rfl Ai|refine .box ?_|exact .nil|refine .cons ?_ ?_|exact .d|exact .row rfl rfl|fail)
end Go.Proofs.M
end
section
namespace Go.Proofs.M
open Go Go.Sx Go.RowKit Go.Proofs Go.Proofs.T Go.Proofs.Q
set_option maxRecDepth 4000
attribute [local irreducible] VR VC thenQ blockQ retL VX
theorem Xn (l:List Ar) (hl:l.length<=100000):FnS Tryz.prog 86 [AD (ars l)] [] (.c (.row 7 l.length)) [(7,.row 62 3 (rowOf Ar.enc l))]:=by
 refine fb Tryz.func86 (by kernel_rfl) rfl Tryz.ntmps86 Tryz.results86 rfl rfl rfl rfl fun E hS=>?_
 refine AK ?_
 repeat'(first|refine sR ?_|refine Aj rfl (by exact tt0) ?_|refine sq 1 rfl ?_|fail)
 refine BB ?_;refine BB ?_;refine Fx rfl rfl rfl rfl fun b hb=>?_
 repeat'(first|refine sB ?_|refine Aj rfl (by exact tt0) ?_|(refine gA ?_;first|refine Bf (gk rfl) rfl rfl rfl (by rfl) (by exact .rd) rfl rfl rfl (by(try dsimp only);omega) rfl rfl ?_)|(refine gD ?_;first|(refine Ay rfl ?_ ?_<;>intro h<;>have hq:=h<;>(try simp only[hqs] at hq)))|fail)
 ·have h0:l=[]:=Ae3 (hb (by assumption));subst h0;exact An (le_nil (T:=62) (sz:=3) (nm:=7) (t:=2) rfl rfl) (Bn Ab rfl rfl)
 ·refine An (Am (l:=[(2,.c (.row 7 l.length))]) (b:=[(7,.row 62 3 (rowOf Ar.enc l))]) (fun n=>n) ⟨⟨_,rfl,.c (.row rfl (by simp))⟩,trivial⟩ ⟨⟨_,rfl,.Bc ?_ Ai⟩,trivial⟩ rfl (by simp only[wfL,wfs];rfl)) (Bn Ab rfl rfl);exact(List.nil_append _).trans (FC (enc:=Ar.enc) (sz:=3) fun _=>rfl)
def stX (l:List (Nat×AV)) (FX:List (Nat×Blk)) (R:Nat->RI) (X:List Wk):St
 |.s t=>(Av l t).map .v
 |.b n=>bif Nat.blt n 8000||(Nat.ble 8100 n&&Nat.blt n 20000) then(Av FX n).map .k else(Av (Dz FX R (X.map Wk.cs)) n).map .k
theorem Sj {FX:List (Nat×Blk)} {R:Nat->RI} {X:List (List C)} {n:Nat} (hX:X.length<=100) (hn:n<8000\/(8100<=n/\n<20000)) (h:Av FX n=none):Av (Dz FX R X) n=none:=by
 cases h1:Av (Dz FX R X) n with
 |none=>rfl
 |some b=>
  rcases BD h1 with h2|⟨i,_,rfl,_⟩|⟨j,_,rfl,_⟩
  ·rw[h] at h2;cases h2
  ·omega
  ·omega
theorem Dj {l:List (Nat×AV)} {FX:List (Nat×Blk)} {R:Nat->RI} {X:List Wk} (hX:X.length<=100):lsS l FX R X=stX l FX R X:=by
 funext k
 cases k with
 |s t=>rfl
 |b n=>
  show(Av (Dz FX R (X.map Wk.cs)) n).map Sx.Item.k=bif Nat.blt n 8000||(Nat.ble 8100 n&&Nat.blt n 20000) then(Av FX n).map Sx.Item.k else(Av (Dz FX R (X.map Wk.cs)) n).map Sx.Item.k;cases hb:Nat.blt n 8000||(Nat.ble 8100 n&&Nat.blt n 20000) with
  |false=>rfl
  |true=>
   have hn:n<8000\/(8100<=n/\n<20000):=by simpa using hb
   cases h:Av FX n with
   |some b=>rw[BI h];rfl
   |none=>rw[Sj (by rw[Aet];exact hX) hn h];rfl
def O0 (m:Me) (k:Nat):List Wk:=(List.range k).map fun i=>Aaw (m.nodes.getD i default) i
def FE (R:Nat->RI) (k:Nat):List Nat:=(List.range k).map fun j=>(R j).blk
def fx0 (m:Me) (loads:List Ld) (sil:List Si) (R:Nat->RI) (k:Nat):List (Nat×Blk):=
 [(100,.box [.d (.int .i64 m.slot),.d (.int .i64 m.turns),.row 103 (FE R k).length,.d (lds loads),.d (sis sil),.row 102 m.arr.length]),(102,.row 62 3 (rowOf Ar.enc m.arr)),(103,.row 136 1 (rowOf LB (FE R k))),(3,.box m.cs),(6,.box (Me.cs ⟨[],0,0,[]⟩))]
theorem GN {m:Me} {loads:List Ld} {sil:List Si} {R:Nat->RI} {k:Nat}:EN (fx0 m loads sil R k):=by
 intro p hp;simp only[fx0,Aex,Aek,or_false] at hp;rcases hp with rfl|rfl|rfl|rfl|rfl<;>simp
theorem Oh {m:Me} {loads:List Ld} {sil:List Si} {R:Nat->RI} {k:Nat} {Y:List (List C)}:∀p∈fx0 m loads sil R k,∀n∈p.2.names,(Av (Dz (fx0 m loads sil R k) R Y) n).isSome=true:=by
 intro p hp;simp only[fx0,Aex,Aek,or_false] at hp;rcases hp with rfl|rfl|rfl|rfl|rfl<;>intro n hn
 ·simp only[Blk.names,List.flatMap_cons,List.flatMap_nil,C.names,List.nil_append,Aez,Aex,Aek,or_false,List.cons_append] at hn;rcases hn with rfl|rfl<;>rfl
 ·rw[AY] at hn;cases hn
 ·rw[AY] at hn;cases hn
 ·simp[Blk.names,Me.cs,C.names] at hn
 ·simp[Blk.names,Me.cs,C.names] at hn
theorem Le.tr {P:Program} {N:Nat} {E:Env P N} {σ τ υ:St} (h1:Le E σ τ) (h2:Le E τ υ):Le E σ υ:=fun a w h=>h2 a w (h1 a w h)
def KS (R:Nat->RI) (k:Nat) (r:RI):Nat->RI:=fun j=>if j=k then r else R j
theorem Nw {R:Nat->RI} {k:Nat} {r:RI}:FE (KS R k r) (k+1)=FE R k++[r.blk]:=by
 unfold FE;rw[List.range_succ,Ae2]
 congr 1
 ·refine List.map_congr_left fun j hj=>?_
  have:=AeL.1 hj;unfold KS;rw[AeS (by omega)]
 ·simp[KS]
theorem XY {m:Me} {k j:Nat} (h:j<k):(O0 m k).getD j default=Aaw (m.nodes.getD j default) j:=by
 simp[O0,Aec,h]
theorem Kg {m:Me} {k:Nat}:(O0 m k).length=k:=by simp[O0]
def gNm (k n:Nat):Nat:=if n=8000+k then 44 else if n=20000+k then 9044 else if n=103 then 46 else n
theorem WZ {k n:Nat} (h1:n≠8000+k) (h2:n≠20000+k) (h3:n≠103):gNm k n=n:=by
 unfold gNm;rw[AeS h1,AeS h2,AeS h3]
theorem Q3 {m:Me} {loads:List Ld} {sil:List Si} {R:Nat->RI} {k n:Nat} {b:Blk} (h:Av (fx0 m loads sil R k) n=some b):
  (n=100/\b=.box [.d (.int .i64 m.slot),.d (.int .i64 m.turns),.row 103 (FE R k).length,.d (lds loads),.d (sis sil),.row 102 m.arr.length])\/(n=102/\b=.row 62 3 (rowOf Ar.enc m.arr))\/(n=103/\b=.row 136 1 (rowOf LB (FE R k)))\/(n=3/\b=.box m.cs)\/(n=6/\b=.box (Me.cs ⟨[],0,0,[]⟩)):=by
 have:=AF h;simp only[fx0,Aex,Aek,or_false,Prod.mk.injEq] at this;exact this
theorem Abz {E:Env Tryz.prog 116} {σ:St} {m:Me} {loads:List Ld} {sil:List Si} {R:Nat->RI} {k:Nat} {r:RI} (hk:k<64)
  (s3:σ (.s 3)=some (.v (.c (.ptr 3 0)))) (s6:σ (.s 6)=some (.v (.c (.ptr 6 0)))) (s7:σ (.s 7)=some (.v (.c (.ptr 100 0)))) (s29:σ (.s 29)=some (.v (AD (mns m.nodes)))) (s30:σ (.s 30)=some (.v (AI m.nodes.length))) (s31:σ (.s 31)=some (.v (AI ((k+1:Nat):Int))))
  (h100:σ (.b 100)=some (.k (.box [.d (.int .i64 m.slot),.d (.int .i64 m.turns),.row 46 ((FE R k).length+1),.d (lds loads),.d (sis sil),.row 102 m.arr.length]))) (h102:σ (.b 102)=some (.k (.row 62 3 (rowOf Ar.enc m.arr))))
  (h46:σ (.b 46)=some (.k (.row 136 1 (rowOf LB (FE R k)++[[.d (.raw (pvo r.blk 0))]])))) (h3:σ (.b 3)=some (.k (.box m.cs))) (h6:σ (.b 6)=some (.k (.box (Me.cs ⟨[],0,0,[]⟩))))
  (h44:σ (.b 44)=some (.k (.box (Aaw (m.nodes.getD k default) k).cs))) (hpn:σ (.b 9044)=some (.k (.pin 44 r)))
  (hfam:∀j,j<k->σ (.b (8000+j))=some (.k (.box ((O0 m k).getD j default).cs))) (hpin:∀j,j<k->σ (.b (20000+j))=some (.k (.pin (8000+j) (R j)))):
  Le E σ (lsS [(3,.c (.ptr 3 0)),(6,.c (.ptr 6 0)),(7,.c (.ptr 100 0)),(29,AD (mns m.nodes)),(30,AI m.nodes.length),(31,AI ((k+1:Nat):Int))] (fx0 m loads sil (KS R k r) (k+1)) (KS R k r) (O0 m (k+1))):=by
 have hid:∀{n},n<8000->n≠103->gNm k n=n:=fun h1 h2=>WZ (by omega) (by omega) h2
 have hX:((O0 m (k+1)).map Wk.cs).length<=100:=by rw[Aet,Kg];omega
 refine Us (gNm k) ⟨⟨_,s3,.c (.ptr (hid (by omega) (by omega)))⟩,⟨_,s6,.c (.ptr (hid (by omega) (by omega)))⟩,⟨_,s7,.c (.ptr (hid (by omega) (by omega)))⟩,⟨_,s29,.c .d⟩,⟨_,s30,.c .d⟩,⟨_,s31,.c .d⟩,trivial⟩ (fun n x hx=>?_) (fun n1 n2 h1 h2 hne he=>?_) (Mf GN hX ?_ Oh (F3 _))
 ·rcases BD hx with h|⟨j,hj,rfl,rfl⟩|⟨j,hj,rfl,rfl⟩
  ·rcases Q3 h with⟨rfl,rfl⟩|⟨rfl,rfl⟩|⟨rfl,rfl⟩|⟨rfl,rfl⟩|⟨rfl,rfl⟩
   ·rw[hid (n:=100) (by omega) (by omega)];refine⟨_,h100,.box (.cons .d (.cons .d (.cons (.row ?_ ?_) (.cons .d (.cons .d (.cons (.row (hid (by omega) (by omega)) rfl) .nil))))))⟩
    ·unfold gNm;rw[AeS (by omega),AeS (by omega),AeT rfl]
    ·rw[Nw,Aeh];rfl
   ·rw[hid (n:=102) (by omega) (by omega)];exact⟨_,h102,.Bc rfl Ai⟩
   ·have e:gNm k 103=46:=by
     unfold gNm;rw[AeS (by omega),AeS (by omega),AeT rfl]
    rw[e];refine⟨_,h46,.Bc ?_ Ai⟩;rw[Nw];exact(A4 (enc:=LB) (l:=FE R k) (m:=[r.blk])).symm
   ·rw[hid (n:=3) (by omega) (by omega)];exact⟨_,h3,.Bh rfl rfl⟩
   ·rw[hid (n:=6) (by omega) (by omega)];exact⟨_,h6,.Bh rfl rfl⟩
  ·rw[Aet,Kg] at hj;rw[HC (by rw[Kg];exact hj),XY hj];by_cases e:j=k
   ·subst e;rw[show gNm j (8000+j)=44 from AeT rfl];exact⟨_,h44,.Bh rfl rfl⟩
   ·rw[WZ (by omega) (by omega) (by omega)];refine⟨_,hfam j (by omega),?_⟩;rw[XY (by omega)];exact .Bh rfl rfl
  ·rw[Aet,Kg] at hj;by_cases e:j=k
   ·subst e;rw[show gNm j (20000+j)=9044 from by unfold gNm;rw[AeS (by omega),AeT rfl],show KS R j r j=r from AeT rfl];exact⟨_,hpn,.pin (AeT rfl)⟩
   ·rw[WZ (by omega) (by omega) (by omega),show KS R k r j=R j from AeS e];exact⟨_,hpin j (by omega),.pin (WZ (by omega) (by omega) (by omega))⟩
 ·have key:∀n,(Av (Dz (fx0 m loads sil (KS R k r) (k+1)) (KS R k r) ((O0 m (k+1)).map Wk.cs)) n).isSome=true->n=100\/n=102\/n=103\/n=3\/n=6\/(8000<=n/\n<8100)\/(20000<=n/\n<20100):=fun n h=>by
   obtain⟨b,hb⟩:=Ae1.1 h;rcases BD hb with h|⟨j,hj,rfl,_⟩|⟨j,hj,rfl,_⟩
   ·rcases Q3 h with⟨rfl,_⟩|⟨rfl,_⟩|⟨rfl,_⟩|⟨rfl,_⟩|⟨rfl,_⟩<;>simp
   ·omega
   ·omega
  have k1:=key n1 h1;have k2:=key n2 h2;unfold gNm at he
  repeat' split at he
  all_goals omega
 ·intro p hp;simp only[Aex,Aek,or_false] at hp;rcases hp with rfl|rfl|rfl|rfl|rfl|rfl<;>refine⟨rfl,fun n hn=>?_⟩<;>simp only[AV.names,AV.Ce,C.names,Aex,Aek,or_false] at hn<;>subst hn<;>rfl
end Go.Proofs.M
end
section
namespace Go.Proofs.Q
open Go Go.Sx
structure OkQ (lim:Int) (l:List Pk):Prop where
 bnd:1<=lim/\lim<=64
 len:(l.length:Int)<=lim
 form:∀x∈l,Fm x=0
 pair:l.Pairwise fun x y=>x.id≠y.id/\x.prio<=y.prio
theorem Hs {l:List Pk} {k:Nat} (h:k<l.length):l.getD k default=l[k]:=by
 rw[Aec,Ael h];rfl
theorem T7 {q:Qu} (h:Bq q=0):OkQ q.Bk q.Af:=by
 obtain⟨h1,h2,h3⟩:=CJ h;refine⟨⟨h1,h2⟩,h3,fun x hx=>?_,List.pairwise_iff_getElem.2 fun i j hi hj hij=>?_⟩
 ·obtain⟨k,hk,rfl⟩:=DY hx;exact(Eb h hk).1
 ·rw[<-Hs hi,<-Hs hj];refine⟨OB h hi hj (by omega),?_⟩;have key:∀d,i+d<q.Af.length->(q.Af.getD i default).prio<=(q.Af.getD (i+d) default).prio:=by
   intro d
   induction d with
   |zero=>intro _;exact Int.le_refl _
   |succ d ih=>
    intro hd;have h4:=(Eb h hd).2.2 (by omega);rw[show i+(d+1)-1=i+d by omega] at h4;exact Int.le_trans (ih (by omega)) h4
  have:=key (j-i) (by omega)
  rwa [show i+(j-i)=j by omega] at this
theorem NH {lim:Int} {l:List Pk} (h:OkQ lim l):Bq ⟨lim,l⟩=0:=by
 unfold Bq;have h1:=h.bnd;have h2:=h.len;rw[AeS (by simp only[inI];simp;omega),AeS (by dsimp only;omega)];refine CD fun k hk=>?_
 dsimp only at hk ⊢;have hp:=List.pairwise_iff_getElem.1 h.pair;unfold Ix;rw[AeS (by simp only[ne_eq,Aeo];exact h.form _ (Cv hk)),AeS ?_,AeS ?_]
 ·rintro⟨h0,h3⟩;have:=(hp (k-1) k (by omega) hk (by omega)).2;rw[Hs hk,Hs (show k-1<l.length by omega)] at h3;omega
 ·intro ha;rw[Aev] at ha;obtain⟨x,hx,he⟩:=ha;obtain⟨i,hi,hil,rfl⟩:=CZ hx;have:=(hp i k hil hk hi).1;rw[Hs hk,Hs hil] at he;exact this (AeC he)
theorem OkQ.sub {lim:Int} {l m:List Pk} (h:OkQ lim l) (hs:m.Sublist l):OkQ lim m:=
 ⟨h.bnd,by have:=h.len;have:=hs.length_le;omega,fun x hx=>h.form x (hs.subset hx),h.pair.sublist hs⟩
def OZ (l:List Pk):List Int:=l.map Pk.id
theorem GK (l:List Pk) (i:Nat) (p:Pk):(Bp l i p).Perm (p :: l):=by
 unfold Bp;exact(List.perm_middle).trans (by rw[AeB])
theorem T8 {lim:Int} {l:List Pk} {p:Pk} (h:OkQ lim l) (hp:Fm p=0) (hi:p.id∉OZ l) (hl:(l.length:Int)+1<=lim):OkQ lim (Bp l (atP l p.prio) p):=by
 have hpw:=List.pairwise_iff_getElem.1 h.pair;have hne:∀x∈l,x.id≠p.id:=fun x hx e=>hi (AeO.2 ⟨x,hx,e⟩)
 have hlo:∀x∈l.take (atP l p.prio),x.prio<=p.prio:=fun x hx=>by
  obtain⟨k,hk,hkl,rfl⟩:=CZ hx;unfold atP at hk;cases hf:Fl l fun x=>decide (p.prio<x.prio) with
  |none=>
   have:=AeD (EE hf _ (Cv hkl));omega
  |some j=>
   rw[hf] at hk;have:=AeD ((BJ hf).2.2 k hk);omega
 have hhi:∀y∈l.drop (atP l p.prio),p.prio<=y.prio:=fun y hy=>by
  unfold atP at hy;cases hf:Fl l fun x=>decide (p.prio<x.prio) with
  |none=>rw[hf] at hy;simp at hy
  |some j=>
   rw[hf] at hy;obtain⟨hj,hpj,_⟩:=BJ hf;have hpj:=AeC hpj;obtain⟨k,hk,rfl⟩:=List.getElem_of_mem hy;rw[Option.getD_some,Aep] at hk;simp only[Option.getD_some,List.getElem_drop];rw[Hs hj] at hpj;rcases Nat.eq_zero_or_pos k with rfl|h0
   ·simp only[Nat.add_zero];omega
   ·have:=(hpw j (j+k) hj (by omega) (by omega)).2;omega
 refine⟨h.bnd,by rw[(GK l _ p).length_eq,List.length_cons];omega,fun x hx=>?_,?_⟩
 ·rcases Aex.1 ((GK l _ p).mem_iff.1 hx) with rfl|hx
  ·exact hp
  ·exact h.form x hx
 ·unfold Bp;rw[List.pairwise_append];refine⟨h.pair.sublist (List.take_sublist _ _),List.pairwise_cons.2 ⟨fun y hy=>⟨fun e=>hne y (List.mem_of_mem_drop hy) e.symm,hhi y hy⟩,h.pair.sublist (List.drop_sublist _ _)⟩,fun x hx y hy=>?_⟩;rcases Aex.1 hy with rfl|hy
  ·exact⟨hne x (Ae0 hx),hlo x hx⟩
  ·have hp2:=h.pair;rw[<-AeB (atP l p.prio) l,List.pairwise_append] at hp2;exact hp2.2.2 x hx y hy
theorem Zm {q:Qu} {p:Pk} (hc:Bq q=0) (h:(E7 q p).2.2=0):p.id∉OZ q.Af/\(E7 q p).1.Bk=q.Bk/\OkQ q.Bk (E7 q p).1.Af /\
  (OZ (E7 q p).2.1++OZ (E7 q p).1.Af).Perm (p.id :: OZ q.Af):=by
 have hok:=T7 hc;have hl:=CJ hc;unfold E7 at h ⊢;rw[AeS (by omega)] at h ⊢;by_cases hf:Fm p=0
 ·rw[AeS (by omega)] at h ⊢;by_cases ha:(q.Af.any fun x=>decide (x.id=p.id))=true
  ·rw[AeT ha] at h;cases h
  ·rw[AeS ha] at h ⊢;have hi:p.id∉OZ q.Af:=fun hm=>by
    obtain⟨x,hx,e⟩:=AeO.1 hm;exact ha (Aev.2 ⟨x,hx,Aed e⟩)
   by_cases hfull:(q.Af.length:Int)=q.Bk
   ·rw[AeT hfull] at h ⊢;by_cases hpr:(q.Af.getD (q.Af.length-1) default).prio<=p.prio
    ·rw[AeT hpr] at h;cases h
    ·rw[AeS hpr];have hsub:OkQ q.Bk (q.Af.take (q.Af.length-1)):=hok.sub (List.take_sublist _ _);have hi':p.id∉OZ (q.Af.take (q.Af.length-1)):=fun hm=>by
      obtain⟨x,hx,e⟩:=AeO.1 hm;exact hi (AeO.2 ⟨x,Ae0 hx,e⟩)
     refine⟨hi,rfl,T8 hsub hf hi' (by rw[Aem];omega),?_⟩;have e1:q.Af.take (q.Af.length-1)++[q.Af.getD (q.Af.length-1) default]=q.Af:=by
      have:=Co (l:=q.Af) (i:=q.Af.length-1) (by omega);rw[<-this,AeK (by omega)]
     have h2:(OZ (Bp (q.Af.take (q.Af.length-1)) (atP (q.Af.take (q.Af.length-1)) p.prio) p)).Perm (p.id :: OZ (q.Af.take (q.Af.length-1))):=(GK _ _ p).map Pk.id;have h3:(OZ [q.Af.getD (q.Af.length-1) default]++OZ (q.Af.take (q.Af.length-1))).Perm (OZ q.Af):=by
      have:(OZ (q.Af.take (q.Af.length-1))++OZ [q.Af.getD (q.Af.length-1) default])=OZ q.Af:=by unfold OZ;rw[<-Ae2,e1]
      rw[<-this];exact List.perm_append_comm
     exact(h2.append_left _).trans (List.perm_middle.trans (h3.cons _))
   ·rw[AeS hfull];refine⟨hi,rfl,T8 hok hf hi (by omega),?_⟩;exact(GK _ _ p).map Pk.id
 ·rw[AeT hf] at h;exact absurd h hf
theorem N6 {l:List Pk} {i:Nat} {p x:Pk} (h:x∈Bp l i p):x=p\/x∈l:=by
 unfold Bp at h;rcases List.mem_append.1 h with h|h
 ·exact .inr (Ae0 h)
 ·rcases Aex.1 h with h|h
  ·exact .inl h
  ·exact .inr (List.mem_of_mem_drop h)
theorem Wz {q:Qu} {p x:Pk} (hc:Bq q=0) (h:(E7 q p).2.2=0) (hx:x∈(E7 q p).1.Af):x=p\/x∈q.Af:=by
 unfold E7 at h hx;rw[AeS (by omega)] at h hx;by_cases hf:Fm p=0
 ·rw[AeS (by omega)] at h hx;by_cases ha:(q.Af.any fun x=>decide (x.id=p.id))=true
  ·rw[AeT ha] at h;cases h
  ·rw[AeS ha] at h hx;by_cases hfull:(q.Af.length:Int)=q.Bk
   ·rw[AeT hfull] at h hx;by_cases hpr:(q.Af.getD (q.Af.length-1) default).prio<=p.prio
    ·rw[AeT hpr] at h;cases h
    ·rw[AeS hpr] at hx;rcases N6 hx with h1|h1
     ·exact .inl h1
     ·exact .inr (Ae0 h1)
   ·rw[AeS hfull] at hx;exact N6 hx
 ·rw[AeT hf] at h;exact absurd h hf
end Go.Proofs.Q
end
section
namespace Go.Proofs
open Go Go.Sx Go.Proofs.T Go.Proofs.Q
set_option maxRecDepth 4000
attribute [local irreducible] VR VC thenQ blockQ retL

theorem UE {l:List Hd} (h:Gm l=true):MW Hd.Ca l:=L3 fun i hi h0=>((DZ h).2 i hi).2.2 h0

structure Pl where
 a:Ac
 c:TC
 p:Pk
 some:Bool
def Pl.cs (x:Pl):List C:=[.d (.int .i64 x.a.kind),.d (.int .i64 x.a.offset),.d (.int .i64 x.a.B1),.d (.int .i64 x.a.source),.d (.int .i64 x.a.target),.d (.int .i64 x.a.list),.d (.int .i64 x.a.seq),.d (.int .i64 x.a.Ca),.d (.int .i64 x.a.number),.d (.int .i64 x.a.err),.d (.int .i64 x.a.slot),.d (.int .i64 x.a.rank),.d (.int .i64 x.a.epoch),.d (.str x.a.data),
 .d (.int .i64 x.c.slot),.d (.int .i64 x.c.offset),.d (.int .i64 x.c.kind),.d (.bool x.c.send),.d (.int .i64 x.c.peer),.d (.int .i64 x.c.Ca),
 .d (.int .i64 x.p.id),.d (.int .i64 x.p.to),.d (.int .i64 x.p.prio),.d (.int .i64 x.p.born),.d (.int .i64 x.p.XV),.d (.str x.p.data),.d (.bool x.some)]
abbrev plA (x:Pl):AV:=.agg x.cs
def Zn (s:Sta) (c:TC):Pk×Bool:=if c.kind=2/\c.send=true then(if(DJ s.qu c.peer).2=true then((DJ s.qu c.peer).1,true) else(noP,false)) else if c.kind=3 then(Aal s (G0 s),(G0 s).isSome) else(noP,false)


end Go.Proofs
end
section
namespace Go.Proofs
open Go Go.Sx Go.Proofs.T Go.Proofs.Q
set_option maxRecDepth 4000
attribute [local irreducible] VR VC thenQ blockQ retL
set_option maxHeartbeats 1000000 in
theorem L2 (h:Hd):FnS Tryz.prog 84 [hdA h,hdA h] [] (AB true) []:=by
 have d0:∀a:Int,decide (a≠a)=false:=fun a=>by simp
 have d1:=d0 h.Ca;have d2:=d0 h.frame;have d3:=d0 h.til;have d4:=d0 (h.AQ.length:Nat);have d5:decide (h.data≠h.data)=false:=by simp
 refine fb Tryz.func84 (by kernel_rfl) rfl Tryz.ntmps84 Tryz.results84 rfl rfl rfl rfl fun E hS=>?_
 repeat'(first|refine sC ?_|(refine gB ?_;first|refine Ti (gk rfl) rfl rfl rfl rfl ?_)|refine Aj rfl (by exact tt0) ?_|refine Az rfl (by assumption) ?_|(refine gD ?_;first|refine Ag rfl ?_|refine At rfl (by assumption) ?_)|fail)
 all_goals first
  |(exfalso;simp_all;done)
  |skip
 refine F8 (nm:=2) (j:=4) (n:=h.AQ.length) rfl rfl fun hbl=>?_
 refine AA (ι:=Nat) (fun k=>AS [(2,.c (.ptr 2 0)),(3,.c (.ptr 3 0)),(5,AI k)] [(2,.box h.cs),(3,.box h.cs)]) (fun k=>k<=h.AQ.length) (fun k=>h.AQ.length-k) 0 (AeV _) ?_ ?_
 ·refine lg ?_ ?_ rfl (by rfl)
  all_goals repeat'(first|exact tt0|refine⟨⟨_,rfl,?_⟩,?_⟩|exact .c .d|exact .c (.ptr rfl)|exact .Bh rfl rfl|fail)
 ·intro k hk;have d6:=d0 (h.AQ.getD k default);rcases AeW k h.AQ.length with hlt|hge
  ·have dlt:decide ((k:Int)<(h.AQ.length:Int))=true:=Aed (by omega)
   repeat'(first|refine sC ?_|refine Aj rfl (by first|exact tt0|omega) ?_|(refine gI ?_;first|refine Aq (gk rfl) rfl rfl rfl rfl rfl (by omega) rfl ?_)|refine Ap (by kernel_rfl) ?_|(refine gD ?_;first|refine Ah rfl ?_|refine Ag rfl ?_|refine At rfl (by assumption) ?_)|fail)
   refine⟨k+1,by omega,by omega,?_⟩;refine lg ?_ ?_ rfl (by rfl)
   all_goals repeat'(first|exact tt0|refine⟨⟨_,rfl,?_⟩,?_⟩|exact .c .d|exact .c (.ptr rfl)|exact .Bh rfl rfl|fail)
  ·have dlt:decide ((k:Int)<(h.AQ.length:Int))=false:=Aee (by omega)
   repeat'(first|refine sB ?_|refine Aj rfl (by exact tt0) ?_|(refine gD ?_;first|refine Ag rfl ?_|refine At rfl (by assumption) ?_)|fail)
   exact As Ab rfl rfl
end Go.Proofs
end
section
namespace Go.Proofs
open Go Go.Sx Go.Proofs.T Go.Proofs.Q
set_option maxRecDepth 4000
attribute [local irreducible] VR VC thenQ blockQ retL
theorem sT (t:Tb):FnS Tryz.prog 82 [tbA t,tbA t] [] (AB true) []:=by
 have:=T.Ge t t
 rwa [show Zd t t=true from Aed ⟨rfl,rfl,rfl⟩] at this
theorem sQ (q:Qu):FnS Tryz.prog 83 [quA q,quA q] [] (AB true) []:=by
 have:=Q.Ge q q
 rwa [show Ze q q=true from Aed ⟨rfl,rfl⟩] at this
set_option maxHeartbeats 2000000 in
theorem JP (s:Sta):FnS Tryz.prog 50 [stA s,stA s] [] (AB true) []:=by
 have d0:∀a:Int,decide (a≠a)=false:=fun a=>by simp
 have e0:∀a:Int,decide (a=a)=true:=fun a=>by simp
 have d1:=d0 (s.held.length:Nat);have d2:=d0 (s.seen.length:Nat);have e1:=e0 s.list;have e2:=e0 s.seq;have e3:=e0 s.Bm;have e4:=e0 s.tries;have e5:=e0 s.back;have e6:=e0 s.wait;have e7:=e0 s.CP;refine fb Tryz.func50 (by kernel_rfl) rfl Tryz.ntmps50 Tryz.results50 rfl rfl rfl rfl fun E hS=>?_
 repeat'(first|refine sC ?_|refine Aj rfl (by exact tt0) ?_|(refine gC ?_;first|refine Aa (sT s.tb) (gk rfl) rfl rfl rfl (by rfl) rfl (by exact Aw) rfl ?_|refine Aa (sQ s.qu) (gk rfl) rfl rfl rfl (by rfl) rfl (by exact Aw) rfl ?_)|refine Az rfl (by assumption) ?_|(refine gD ?_;first|refine Ag rfl ?_|refine At rfl (by assumption) ?_)|fail)
 refine F8 (nm:=2) (j:=5) (n:=s.held.length) rfl rfl fun hbl=>?_
 refine F8 (nm:=2) (j:=6) (n:=s.seen.length) rfl rfl fun hbs=>?_
 refine AA (ι:=Nat) (fun k=>AS [(2,.c (.ptr 2 0)),(3,.c (.ptr 3 0)),(5,AI k)] [(2,.box s.cs),(3,.box s.cs)]) (fun k=>k<=s.held.length) (fun k=>s.held.length-k) 0 (AeV _) ?_ ?_
 ·refine lg ?_ ?_ rfl (by rfl)
  all_goals repeat'(first|exact tt0|refine⟨⟨_,rfl,?_⟩,?_⟩|exact .c .d|exact .c (.ptr rfl)|exact .Bh rfl rfl|fail)
 ·intro k hk;rcases AeW k s.held.length with hlt|hge
  ·have dlt:decide ((k:Int)<(s.held.length:Int))=true:=Aed (by omega)
   repeat'(first|refine sC ?_|refine Aj rfl (by first|exact tt0|omega) ?_|(refine gC ?_;first|refine Aa (L2 (s.held.getD k default)) (gk rfl) rfl rfl rfl (by rfl) rfl (by exact Aw) rfl ?_)|(refine gI ?_;first|refine Aq (gk rfl) rfl rfl rfl rfl rfl (by omega) rfl ?_)|refine Ap (by kernel_rfl) ?_|(refine gD ?_;first|refine Ah rfl ?_|refine Ag rfl ?_|refine At rfl (by assumption) ?_)|fail)
   refine⟨k+1,by omega,by omega,?_⟩;refine lg ?_ ?_ rfl (by rfl)
   all_goals repeat'(first|exact tt0|refine⟨⟨_,rfl,?_⟩,?_⟩|exact .c .d|exact .c (.ptr rfl)|exact .Bh rfl rfl|fail)
  ·have dlt:decide ((k:Int)<(s.held.length:Int))=false:=Aee (by omega)
   repeat'(first|refine sC ?_|refine Aj rfl (by exact tt0) ?_|(refine gD ?_;first|refine Ag rfl ?_|refine At rfl (by assumption) ?_)|fail)
   refine AA (ι:=Nat) (fun k=>AS [(2,.c (.ptr 2 0)),(3,.c (.ptr 3 0)),(6,AI k)] [(2,.box s.cs),(3,.box s.cs)]) (fun k=>k<=s.seen.length) (fun k=>s.seen.length-k) 0 (AeV _) ?_ ?_
   ·refine lg ?_ ?_ rfl (by rfl)
    all_goals repeat'(first|exact tt0|refine⟨⟨_,rfl,?_⟩,?_⟩|exact .c .d|exact .c (.ptr rfl)|exact .Bh rfl rfl|fail)
   ·intro k hk;rcases AeW k s.seen.length with hlt|hge
    ·have dlt:decide ((k:Int)<(s.seen.length:Int))=true:=Aed (by omega)
     repeat'(first|refine sC ?_|refine Aj rfl (by first|exact tt0|omega) ?_|(refine gI ?_;first|refine Aq (gk rfl) rfl rfl rfl rfl rfl (by omega) rfl ?_)|(refine gB ?_;first|refine Fu (gk rfl) rfl rfl rfl rfl rfl rfl rfl ?_)|refine Ap (by kernel_rfl) ?_|(refine gD ?_;first|refine Ah rfl ?_|refine At rfl (by assumption) ?_|(refine Ay rfl ?_ ?_<;>intro h<;>have hq:=h<;>(try simp only[hqs] at hq)))|fail)
     ·exact absurd trivial hq
     ·refine⟨k+1,by omega,by omega,?_⟩;refine lg ?_ ?_ rfl (by rfl)
      all_goals repeat'(first|exact tt0|refine⟨⟨_,rfl,?_⟩,?_⟩|exact .c .d|exact .c (.ptr rfl)|exact .Bh rfl rfl|fail)
    ·have dlt:decide ((k:Int)<(s.seen.length:Int))=false:=Aee (by omega)
     repeat'(first|refine sB ?_|refine Aj rfl (by exact tt0) ?_|refine Az rfl (by assumption) ?_|(refine gD ?_;first|refine Ag rfl ?_|refine At rfl (by assumption) ?_)|fail)
     exact As Ab rfl e7.symm
def Aaq (h:Hd):Bool:=decide (h.data.size<=200)&&decide (h.AQ.length<=40)
def U0 (s:Sta):Bool:=Adi s.tb&&AbJ s.qu&&decide (s.held.length<=20)&&decide (s.seen.length<=40)&&s.held.all Aaq
set_option maxHeartbeats 2000000 in
theorem UZ (s:Sta):FnS Tryz.prog 38 [stA s] [] (AB (U0 s)) []:=by
 refine fb Tryz.func38 (by kernel_rfl) rfl Tryz.ntmps38 Tryz.results38 rfl rfl rfl rfl fun E hS=>?_
 repeat'(first|refine sC ?_|refine Aj rfl (by exact tt0) ?_|(refine gC ?_;first|refine Aa (UY s.tb) (gk rfl) rfl rfl rfl (by rfl) rfl (by exact Aw) rfl ?_|refine Aa (Q.Mv s.qu) (gk rfl) rfl rfl rfl (by rfl) rfl (by exact Aw) rfl ?_)|(refine Ax rfl ?_ ?_<;>intro h<;>have hq:=h<;>(try simp only[hqs] at hq))|(refine gD ?_;first|refine Ah rfl ?_|(refine Ay rfl ?_ ?_<;>intro h<;>have hq:=h<;>(try simp only[hqs] at hq)))|fail)
 ·refine As Ab rfl ?_;simp only[U0];simp_all
 ·refine As Ab rfl ?_;simp only[U0];simp_all
 ·refine As Ab rfl ?_;rw[U0,Aee (p:=s.held.length<=20) (by omega)];simp
 ·refine As Ab rfl ?_;rw[U0,Aee (p:=s.seen.length<=40) (by omega)];simp
 have e:U0 s=s.held.all Aaq:=by
  rw[U0,Aed (p:=s.held.length<=20) (by omega),Aed (p:=s.seen.length<=40) (by omega)]
  simp_all
 refine AA (ι:=Nat) (fun k=>AS [(1,.c (.ptr 1 0)),(3,AI k)] [(1,.box s.cs)]) (fun k=>k<=s.held.length/\∀i,i<k->Aaq (s.held.getD i default)=true) (fun k=>s.held.length-k) 0 ⟨AeV _,fun i hi=>absurd hi (AeQ _)⟩ ?_ ?_
 ·refine lg ?_ ?_ rfl (by rfl)
  all_goals repeat'(first|exact tt0|refine⟨⟨_,rfl,?_⟩,?_⟩|exact .c .d|exact .c (.ptr rfl)|exact .Bh rfl rfl|fail)
 ·intro k hk;rcases AeW k s.held.length with hlt|hge
  ·have dlt:decide ((k:Int)<(s.held.length:Int))=true:=Aed (by omega)
   repeat'(first|refine sC ?_|refine Aj rfl (by first|exact tt0|omega) ?_|(refine gI ?_;first|refine Aq (gk rfl) rfl rfl rfl rfl rfl (by omega) rfl ?_)|(refine Ax rfl ?_ ?_<;>intro h<;>have hq:=h<;>(try simp only[hqs] at hq))|(refine gD ?_;first|refine Ah rfl ?_|refine At rfl (by assumption) ?_|(refine Ay rfl ?_ ?_<;>intro h<;>have hq:=h<;>(try simp only[hqs] at hq)))|fail)
   ·refine As Ab rfl ?_;rw[e,List.all_eq_false];exact⟨_,Cv hlt,by rw[Aaq,Aee (p:=_<=200) (by omega)];simp⟩
   ·refine As Ab rfl ?_;rw[e,List.all_eq_false];exact⟨_,Cv hlt,by rw[Aaq,Aee (p:=_<=40) (by omega)];simp⟩
   ·refine⟨k+1,⟨by omega,fun i hi=>?_⟩,by omega,?_⟩
    ·by_cases hik:i<k
     ·exact hk.2 i hik
     ·have:i=k:=by omega
      subst this;rw[Aaq,Aed (p:=_<=200) (by omega),Aed (p:=_<=40) (by omega)];rfl
    ·refine lg ?_ ?_ rfl (by rfl)
     all_goals repeat'(first|exact tt0|refine⟨⟨_,rfl,?_⟩,?_⟩|exact .c .d|exact .c (.ptr rfl)|exact .Bh rfl rfl|fail)
  ·have dlt:decide ((k:Int)<(s.held.length:Int))=false:=Aee (by omega)
   repeat'(first|refine sB ?_|refine Aj rfl (by exact tt0) ?_|(refine gD ?_;first|refine Ag rfl ?_|refine At rfl (by assumption) ?_)|fail)
   refine As Ab rfl ?_;rw[e,Aeu];intro x hx;obtain⟨i,hi,rfl⟩:=DY hx;exact hk.2 i (by omega)
abbrev strs (l:List ByteArray):D:=IS (fun x=>[.str x]) 1 l
abbrev Abl (p:ByteArray->Bool):List DV->DV->Prop:=fun ds r=>∃x:ByteArray,ds=[.d (.str x)]/\r=.d (.bool (p x))




theorem ZL {l:List Pk} {p:Pk} (h:p∈l):∃i,N8 l p.id=some i:=by
 cases hf:N8 l p.id with
 |some i=>exact⟨i,rfl⟩
 |none=>
  have:=EE hf p h;simp at this
theorem NI (a:Ac) (o:Int):(QU a o).kind=a.kind:=by unfold QU;split<;>rfl
theorem Sc (a:Ac) (o:Int):(QU a o).B1=a.B1:=by unfold QU;split<;>rfl
theorem VL {s:Sta} {slot:Int} {c:TC} (hck:AT s=0) (h1:(CV s slot c).kind=1) (h2:¬(CV s slot c).B1=1):
  Zn s c=(BG s c,true)/\BG s c∈s.qu.Af/\CV s slot c={Abt s (BG s c) with offset:=c.offset}/\((c.kind=2/\c.send=true/\(DJ s.qu c.peer).2=true)\/(c.kind=3/\(G0 s).isSome=true/\s.wait=0)):=by
 obtain⟨_,hQ,_,_⟩:=Bl hck;unfold CV at h1 h2 ⊢;rw[NI] at h1;rw[Sc] at h2;unfold GZ at h1 h2 ⊢;by_cases k1:c.kind=1
 ·rw[AeT k1] at h1 h2;unfold Vi at h1 h2
  split at h1
  ·cases h1
  ·rename_i hsd;rw[AeS hsd] at h2
   split at h1
   ·cases h1
   ·rename_i i hh;rw[hh] at h2;dsimp only at h2
    split at h1
    ·cases h1
    ·rename_i hn;rw[AeS hn] at h2;exact absurd rfl h2
 ·rw[AeS k1] at h1 h2 ⊢;by_cases k2:c.kind=2
  ·rw[AeT k2] at h1 h2 ⊢;unfold Xz at h1 h2 ⊢
   split at h1
   ·cases h1
   ·rename_i hsd;have hsd':c.send=true:=by simpa using hsd
    rw[AeS hsd] at h2 ⊢
    split at h1
    ·rename_i hq;rw[AeT hq];have hs:BG s c=(DJ s.qu c.peer).1:=by rw[BG,AeS (by omega)]
     refine⟨?_,?_,?_,.inl ⟨k2,hsd',hq⟩⟩
     ·rw[Zn,AeT ⟨k2,hsd'⟩,AeT hq,hs]
     ·rw[hs];cases hf:PQ s.qu.Af c.peer with
      |none=>rw[Hu hQ hf] at hq;cases hq
      |some i=>
       rw[Ht hQ hf];obtain⟨hi,_,_⟩:=BJ hf;exact Cv hi
     ·rw[hs];rfl
    ·cases h1
  ·rw[AeS k2] at h1 h2 ⊢;by_cases k3:c.kind=3
   ·rw[AeT k3] at h1 h2 ⊢;unfold XQ at h1 h2 ⊢
    split at h1
    ·rename_i hq;rw[AeT hq];have hs:BG s c=Aal s (G0 s):=by rw[BG,AeT k3]
     refine⟨?_,?_,?_,.inr ⟨k3,hq⟩⟩
     ·rw[Zn,AeS (fun h=>k2 h.1),AeT k3,hs,hq.1]
     ·rw[hs];cases hf:G0 s with
      |none=>rw[hf] at hq;cases hq.1
      |some i=>
       obtain⟨hi,_,_⟩:=BJ hf;exact Cv hi
     ·rw[hs];rfl
    ·cases h1
   ·rw[AeS k3] at h1;cases h1
end Go.Proofs
end
section
namespace Go.Proofs
open Go Go.Sx Go.Proofs.T Go.Proofs.Q
theorem Q8 {p:Pk} (h:Fm p=0):0<=p.id/\-1<=p.to/\p.to<=31:=by
 unfold Fm at h
 split at h
 ·cases h
 ·rename_i hn;simp only[inI,not_or,Aeg,Aeo] at hn;omega
theorem R8 {l:List Pk} {k:Nat} (h:k<l.length):l.getD k default=l[k]:=by
 rw[Aec,Ael h];rfl
theorem Ac3 {q:Qu} (h:Bq q=0):q.Af.Pairwise fun x y=>x.id≠y.id/\x.prio<=y.prio:=by
 refine List.pairwise_iff_getElem.2 fun i j hi hj hij=>?_
 rw[<-R8 hi,<-R8 hj];refine⟨OB h hi hj (by omega),?_⟩;have key:∀d,i+d<q.Af.length->(q.Af.getD i default).prio<=(q.Af.getD (i+d) default).prio:=by
  intro d
  induction d with
  |zero=>intro _;exact Int.le_refl _
  |succ d ih=>
   intro hd;have h4:=(Eb h hd).2.2 (by omega);rw[show i+(d+1)-1=i+d by omega] at h4;exact Int.le_trans (ih (by omega)) h4
 have:=key (j-i) (by omega)
 rwa [show i+(j-i)=j by omega] at this
theorem Ad0 {q:Qu} (h:Bq q=0) {m:List Pk} (hs:m.Sublist q.Af):Bq ⟨q.Bk,m⟩=0:=by
 obtain⟨h1,h2,h3⟩:=CJ h;have hl:=hs.length_le;have hp:=List.pairwise_iff_getElem.1 ((Ac3 h).sublist hs);unfold Bq;rw[AeS (by simp only[inI];simp;omega),AeS (by dsimp only;omega)];refine CD fun k hk=>?_
 dsimp only at hk ⊢;unfold Ix;have hf:Fm (m.getD k default)=0:=by
  obtain⟨i,hi,he⟩:=DY (hs.subset (Cv hk));rw[<-he];exact(Eb h hi).1
 rw[AeS (by simp only[ne_eq,Aeo];exact hf),AeS ?_,AeS ?_]
 ·rintro⟨h0,h3⟩;have:=(hp (k-1) k (by omega) hk (by omega)).2;rw[R8 hk,R8 (show k-1<m.length by omega)] at h3;omega
 ·intro ha;rw[Aev] at ha;obtain⟨x,hx,he⟩:=ha;obtain⟨i,hi,hil,rfl⟩:=CZ hx;have:=(hp i k hil hk hi).1;rw[R8 hk,R8 hil] at he;exact this (AeC he)
theorem Wd {s:Sta} (hQ:Bq s.qu=0) {p:Pk} (hp:p∈s.qu.Af):∃m,(I3 s.qu p.id).1=⟨s.qu.Bk,m⟩/\m.Sublist s.qu.Af:=by
 obtain⟨i,hi⟩:=ZL hp;rw[K5 hQ hi];exact⟨_,rfl,List.eraseIdx_sublist _ _⟩
theorem DP {s t:Sta} (hck:AT s=0) {m:List Pk} (hs:m.Sublist s.qu.Af) (ht:t.tb=s.tb) (hq:t.qu=⟨s.qu.Bk,m⟩):CY t=true:=by
 obtain⟨_,hQ,hP,_⟩:=Bl hck;unfold CY;rw[hq,ht,Ad0 hQ hs,Aew.2 fun x hx=>by rw[hP x (hs.subset hx)];simp]
 rfl
theorem QZ {s:Sta} (hck:AT s=0) {p:Pk} (hp:p∈s.qu.Af) (b w:Int) (hb:0<=b/\b<=5/\0<=w/\w<=2^b.toNat-1):
  AT {DB s p.id with back:=b,wait:=w}=0/\({DB s p.id with back:=b,wait:=w}:Sta).qu.Af.length<=s.qu.Af.length:=by
 obtain⟨h1,h2,h3,h4,h5,h6,h7⟩:=Bl hck;obtain⟨m,hm,hs⟩:=Wd h2 hp;have h7:=FB h7;refine⟨Ct h1 (DP hck hs rfl hm) h4 h5 (Aed (.inl ⟨rfl,rfl⟩)) (Aed ?_),?_⟩
 ·show 0<=s.list/\s.list<=255/\0<=(s.seq+1) % 256/\(s.seq+1) % 256<=255/\0<=b/\b<=5/\0<=w/\w<=2^b.toNat-1/\0<=s.CP/\s.CP<=2147483647;exact⟨h7.1,h7.2.1,by omega,by omega,hb.1,hb.2.1,hb.2.2.1,hb.2.2.2,h7.2.2.2.2.2.2.2.2.1,h7.2.2.2.2.2.2.2.2.2⟩
 ·show(I3 s.qu p.id).1.Af.length<=_;rw[hm];exact hs.length_le
theorem Rq {s:Sta} {c:TC} (hck:AT s=0) (hp:BG s c∈s.qu.Af) (ht:El s c<4) (b w d:Int) (hb:0<=b/\b<=5/\0<=w/\w<=2^b.toNat-1) (hd:0<=d/\d<=2147483647):
  AT {s with Bm:=(BG s c).id,tries:=El s c,back:=b,wait:=w,CP:=d}=0:=by
 obtain⟨h1,h2,h3,h4,h5,h6,h7⟩:=Bl hck;have h7:=FB h7;have h6:=AeC h6;obtain⟨i,hi,he⟩:=DY hp;have hid:0<=(BG s c).id:=by rw[<-he];exact(Q8 (Eb h2 hi).1).1
 have ht1:1<=El s c:=by
  unfold El
  split<;>omega
 refine Ct h1 (DP hck (List.Sublist.refl _) rfl rfl) h4 h5 (Aed (.inr ⟨hid,?_,ht1,ht⟩)) (Aed ?_)
 ·exact Aev.2 ⟨_,hp,Aed rfl⟩
 ·show 0<=s.list/\s.list<=255/\0<=s.seq/\s.seq<=255/\0<=b/\b<=5/\0<=w/\w<=2^b.toNat-1/\0<=d/\d<=2147483647;exact⟨h7.1,h7.2.1,h7.2.2.1,h7.2.2.2.1,hb.1,hb.2.1,hb.2.2.1,hb.2.2.2,hd.1,hd.2⟩
def XE (s t:Sta):Prop:=AT t=0/\t.qu.Af.length<=s.qu.Af.length/\t.tb=s.tb
theorem Wc {s:Sta} {c:TC} (AQ:Bool) (hck:AT s=0) (hp:BG s c∈s.qu.Af):XE s (C3 s c AQ):=by
 obtain⟨h1,h2,h3,h4,h5,h6,h7⟩:=Bl hck;have h7:=FB h7;have hL:XE s (DB s (BG s c).id):=by
  have:=QZ hck hp s.back s.wait ⟨h7.2.2.2.2.1,h7.2.2.2.2.2.1,h7.2.2.2.2.2.2.1,h7.2.2.2.2.2.2.2.1⟩;exact⟨this.1,this.2,rfl⟩
 unfold C3
 split
 ·exact hL
 ·split
  ·unfold UL
   split
   ·have:=QZ hck hp 0 0 (by decide);exact⟨this.1,this.2,rfl⟩
   ·exact hL
  ·rename_i hn;have ht:El s c<4:=Int.lt_of_not_ge fun h=>hn (.inr h)
   unfold OR
   split
   ·have hpw:=(Acn (min (s.back+1) 5)).resolve_left (by omega) |>.resolve_left (by omega);have hsd:0<=BR s.CP/\BR s.CP<=2147483647:=by unfold BR;omega
    refine⟨Rq hck hp ht (min (s.back+1) 5) (BR s.CP/65536 % 2^(min (s.back+1) 5).toNat) (BR s.CP) ⟨by omega,by omega,?_,?_⟩ hsd,AeU _,rfl⟩
    ·exact Int.emod_nonneg _ (by omega)
    ·have:=Int.emod_lt_of_pos (BR s.CP/65536) (show 0<(2:Int)^(min (s.back+1) 5).toNat by omega);omega
   ·exact⟨Rq hck hp ht s.back s.wait s.CP ⟨h7.2.2.2.2.1,h7.2.2.2.2.2.1,h7.2.2.2.2.2.2.1,h7.2.2.2.2.2.2.2.1⟩ h7.2.2.2.2.2.2.2.2,AeU _,rfl⟩
theorem TO {α:Type} [Inhabited α] {k:α->Int} {l:List α} (h:MW k l):l.Pairwise fun a b=>k a<k b:=by
 refine List.pairwise_iff_getElem.2 fun i j hi hj hij=>?_
 have:=h i j hij hj;rw[Aec,Aec,Ael hi,Ael hj] at this;exact this
theorem TS {α:Type} [Inhabited α] {k:α->Int} {l:List α} (h:l.Pairwise fun a b=>k a<k b):MW k l:=by
 intro i j hij hj;have:=List.pairwise_iff_getElem.1 h i j (by omega) hj hij;rw[Aec,Aec,Ael (show i<l.length by omega),Ael hj];exact this
theorem Na {α:Type} [Inhabited α] {k:α->Int} {l:List α} (x:α) (h:MW k l):MW k (MV k l x):=by
 refine TS ?_;have hp:=TO h;unfold MV;rw[List.pairwise_append];refine⟨hp.filter _,List.pairwise_cons.2 ⟨fun a ha=>AeC (AeM.1 ha).2,hp.filter _⟩,fun a ha b hb=>?_⟩;have h1:=AeC (AeM.1 ha).2;rcases Aex.1 hb with rfl|hb
 ·exact h1
 ·have h2:=AeC (AeM.1 hb).2;omega
theorem Qx {α:Type} {k:α->Int} {l:List α} {x y:α} (h:y∈MV k l x):y=x\/y∈l:=by
 unfold MV at h;rcases List.mem_append.1 h with h|h
 ·exact .inr (AeM.1 h).1
 ·rcases Aex.1 h with h|h
  ·exact .inl h
  ·exact .inr (AeM.1 h).1
theorem Wn {l:List Sn} (h:∀x∈l,0<=x.node/\x.node<=31/\0<=x.seq/\x.seq<=255) (hr:MW Sn.node l):Hk l=true:=by
 unfold Hk;rw[EL fun i hi=>?_]
 ·rfl
 refine Aee ?_;have h1:=h _ (Cv hi);rintro(h2|h2|⟨h0,h2⟩)
 ·omega
 ·omega
 ·have:=hr (i-1) i (by omega) hi;omega
theorem RU {l:List Int} (h:∀x∈l,0<=x/\x<=31) (hr:MW id l):EA l=true:=by
 unfold EA;rw[EL fun i hi=>?_]
 ·rfl
 refine Aee ?_;have h1:=h _ (Cv hi);rintro(h2|h2|⟨h0,h2⟩)
 ·omega
 ·omega
 ·have h3:l.getD (i-1) default<l.getD i default:=hr (i-1) i (by omega) hi;omega
theorem XR {l:List Hd} {i j:Nat} {x:Hd} (hi:i<l.length):(l.set i x).getD j default=if i=j then x else l.getD j default:=by
 rw[Aec,List.getElem?_set]
 split
 ·first|rfl|(rw[AeT hi];rfl)
 ·rw[<-Aec]
theorem UF {l:List Hd} (h:Gm l=true) {i:Nat} (hi:i<l.length) {a:List Int} (ha:EA a=true):Gm (l.set i {l.getD i default with AQ:=a})=true:=by
 obtain⟨h1,h2⟩:=DZ h;have hfl:∀j,((l.set i {l.getD i default with AQ:=a}).getD j default).Ca=(l.getD j default).Ca/\((l.set i {l.getD i default with AQ:=a}).getD j default).data=(l.getD j default).data:=by
  intro j;rw[XR hi]
  split
  ·rename_i e;subst e;exact⟨rfl,rfl⟩
  ·exact⟨rfl,rfl⟩
 have hrg:∀j,j<l.length->FD ((l.set i {l.getD i default with AQ:=a}).getD j default)=true:=by
  intro j hj;rw[XR hi];have h3:=DO (h2 j hj).1
  split
  ·rename_i e;subst e;unfold FD;rw[ha,Bool.and_true];exact Aed ⟨h3.1,h3.2.1,h3.2.2.1,h3.2.2.2.1,h3.2.2.2.2.1,h3.2.2.2.2.2.1⟩
  ·exact(h2 j hj).1
 unfold Gm;rw[Aes,EL fun j hj=>?_]
 ·simp;omega
 refine Aee ?_;rw[hrg j hj,(hfl j).1,(hfl (j-1)).1,(hfl j).2];have h4:=h2 j hj;rintro(h5|h5|⟨h0,h5⟩)
 ·cases h5
 ·omega
 ·have:=h4.2.2 h0;omega
theorem W6 {c:TC} {self len:Int} (h:Oj c self len=0):(c.kind=1\/c.kind=2\/c.kind=3)/\(c.kind≠3->0<=c.peer/\c.peer<=31/\c.peer≠self):=by
 unfold Oj at h
 split at h
 ·cases h
 ·rename_i h1
  split at h
  ·cases h
  ·split at h
   ·cases h
   ·rename_i h3;refine⟨by omega,fun h4=>?_⟩;simp only[not_or,not_and] at h3;have h5:=h3.2.2.1 h4;have h6:D7 c.peer=true:=by simpa using h5.1
    have h7:=AeC h6;exact⟨h7.1,by omega,h5.2⟩
def Rw (n:Int) (c:TC):Prop:=c=noC\/(c.kind=1\/c.kind=2\/c.kind=3)/\(c.kind≠3->0<=c.peer/\c.peer<=31/\c.peer≠n)
theorem X7 (t:Tb) (slot:Int) (h:Ci t=0):Rw t.node (atM t slot).1:=by
 unfold atM
 split
 ·exact .inl rfl
 ·split
  ·rename_i i hf;obtain⟨hi,_,_⟩:=BJ hf;refine .inr (W6 (len:=t.len) ?_);have hl:=Cm h;unfold Ci at h;rw[AeS (by rw[hl.2.2.2];simp;omega),AeS (by omega)] at h;have:=IX h i hi;unfold KN at this
   split at this
   ·rename_i h1;exact absurd this h1
   ·rename_i h1;simpa using h1
  ·exact .inl rfl
theorem Zw {t:Tb} (h:Ci t=0):0<=t.node/\t.node<=31:=by
 have:=AeC (Cm h).2.2.2;omega
def acF (a:Ac):Fr:=⟨a.B1,a.source,a.target,a.list,a.seq,a.Ca,a.number,a.err,a.slot,a.rank,a.epoch,a.data⟩
theorem VM {s:Sta} {slot:Int} {c:TC} (hck:AT s=0) (hc:Rw s.tb.node c) (k1:(CV s slot c).kind=1):
  okP (acF (CV s slot c))/\(CV s slot c).data.size<=100/\((CV s slot c).B1=1\/(CV s slot c).B1=4)/\(CV s slot c).source=s.tb.node/\(c.send=true\/c.kind=3)/\(c.kind≠3->(CV s slot c).target=c.peer):=by
 obtain⟨h1,h2,h3,h4,h5,h6,h7⟩:=Bl hck;have h7:=FB h7;have hn:=Zw h1;by_cases k2:(CV s slot c).B1=1
 ·obtain⟨e1,e2,i,hf,_,_,ha⟩:=MR k1 k2;obtain⟨hi,_,_⟩:=BJ hf;have hH:=(DZ h4).2 i hi;have hr:=DO hH.1;have hp:0<=c.peer/\c.peer<=31/\c.peer≠s.tb.node:=by
   rcases hc with hc|hc
   ·rw[hc] at e1;cases e1
   ·exact hc.2 (by omega)
  rw[ha];refine⟨⟨⟨hn,⟨h7.1,h7.2.1⟩,?_,?_⟩,.inl ⟨rfl,hp,⟨hr.1,hr.2.1⟩,⟨hr.2.2.1,hr.2.2.2.1⟩,rfl,rfl,rfl,rfl⟩⟩,hH.2.1,.inl rfl,rfl,.inl e2,fun _=>rfl⟩
  ·show 0<=(s.held.getD i default).frame % 256;omega
  ·show(s.held.getD i default).frame % 256<=255;omega
 ·obtain⟨_,hm,ha,hk⟩:=VL hck k1 k2;obtain⟨i,hi,he⟩:=DY hm;have hfo:=Q8 (p:=BG s c) (by rw[<-he];exact(Eb h2 hi).1);have hb:=AeD (h3 _ hm);rw[ha];refine⟨⟨⟨hn,⟨h7.1,h7.2.1⟩,h7.2.2.1,h7.2.2.2.1⟩,.inr (.inr (.inr ⟨rfl,?_,rfl,rfl,rfl,rfl,rfl,rfl⟩))⟩,?_,.inr rfl,rfl,?_,fun k3=>?_⟩
  ·show(BG s c).to=-1\/0<=(BG s c).to/\(BG s c).to<=31/\(BG s c).to≠s.tb.node;omega
  ·show(BG s c).data.size<=100;omega
  ·rcases hk with hk|hk
   ·exact .inl hk.2.1
   ·exact .inr hk.1
  ·rcases hk with hk|hk
   ·show(BG s c).to=c.peer;have hs:BG s c=(DJ s.qu c.peer).1:=by rw[BG,AeS k3]
    rw[hs];cases hf:PQ s.qu.Af c.peer with
    |none=>have:=hk.2.2;rw[Hu h2 hf] at this;cases this
    |some j=>
     rw[Ht h2 hf];obtain⟨_,hj,_⟩:=BJ hf;exact AeC hj
   ·exact absurd hk.1 k3
def upF (u:Up):Fr:=⟨u.B1,u.source,u.target,u.list,u.seq,u.Ca,u.number,u.err,u.slot,u.rank,u.epoch,u.data⟩
theorem ZP {f:Fr} {n:Int} (h:Td f n=true):okP f:=by
 unfold Td at h;rw[Aen] at h;exact(IH f).1 (AeC h.1)
theorem WW {s:Sta} (f:Fr) (hck:AT s=0):XE s (Ch s f).1/\((Ch s f).2.some=true->upF (Ch s f).2=f/\Td f s.tb.node=true):=by
 obtain⟨h1,h2,h3,h4,h5,h6,h7⟩:=Bl hck;have hid:XE s s:=⟨hck,AeU _,rfl⟩;unfold Ch
 split
 ·exact⟨hid,fun h=>by cases h⟩
 ·rename_i hn;have hf:Td f s.tb.node=true:=by
   cases h:Td f s.tb.node with
   |true=>rfl
   |false=>exact absurd (.inl h) hn
  have hok:=ZP hf
  split
  ·exact⟨hid,fun _=>⟨rfl,hf⟩⟩
  ·split
   ·refine⟨⟨?_,AeU _,rfl⟩,fun _=>⟨rfl,hf⟩⟩;refine Ct h1 (DP hck (List.Sublist.refl _) rfl rfl) h4 (Wn (fun x hx=>?_) (Na _ (Nn h5))) h6 h7;rcases Qx hx with rfl|hx
    ·exact⟨hok.1.1.1,hok.1.1.2,hok.1.2.2.1,hok.1.2.2.2⟩
    ·obtain⟨i,hi,rfl⟩:=DY hx;have:=LZ h5 i hi;exact⟨this.1,this.2.1,this.2.2.1,this.2.2.2.1⟩
   ·exact⟨hid,fun _=>⟨rfl,hf⟩⟩
theorem Yg {s:Sta} {slot:Int} {c:TC} (hck:AT s=0) (k2:(CV s slot c).kind=2):XE s (Rz s c):=by
 obtain⟨h1,h2,h3,h4,h5,h6,h7⟩:=Bl hck;have h7:=FB h7;unfold Rz
 split
 ·rename_i hw;have hw0:s.wait≠0:=by
   intro h0;unfold CV at k2;rw[NI] at k2;unfold GZ at k2;rw[AeS (by omega),AeS (by omega),AeT hw.2] at k2;unfold XQ at k2;rw[AeT ⟨hw.1,h0⟩] at k2;cases k2
  refine⟨Ct h1 (DP hck (List.Sublist.refl _) rfl rfl) h4 h5 h6 (Aed ?_),AeU _,rfl⟩;show 0<=s.list/\s.list<=255/\0<=s.seq/\s.seq<=255/\0<=s.back/\s.back<=5/\0<=s.wait-1/\s.wait-1<=2^s.back.toNat-1/\0<=s.CP/\s.CP<=2147483647;have h8:=h7.2.2.2.2.2.2.1;have h9:=h7.2.2.2.2.2.2.2.1;generalize (2:Int)^s.back.toNat=pw at h9 ⊢;exact⟨h7.1,h7.2.1,h7.2.2.1,h7.2.2.2.1,h7.2.2.2.2.1,h7.2.2.2.2.2.1,by omega,by omega,h7.2.2.2.2.2.2.2.2.1,h7.2.2.2.2.2.2.2.2.2⟩
 ·exact⟨hck,AeU _,rfl⟩
theorem Ab9 {s:Sta} {slot:Int} {c:TC} (hck:AT s=0) (hc:Rw s.tb.node c) (k1:(CV s slot c).kind=1) (k2:(CV s slot c).B1=1):XE s (Aas s (CV s slot c)):=by
 obtain⟨h1,h2,h3,h4,h5,h6,h7⟩:=Bl hck;obtain⟨e1,e2,i,hf,_,_,ha⟩:=MR k1 k2;have hp:0<=c.peer/\c.peer<=31/\c.peer≠s.tb.node:=by
  rcases hc with hc|hc
  ·rw[hc] at e1;cases e1
  ·exact hc.2 (by omega)
 have htg:(CV s slot c).target=c.peer:=by rw[ha];rfl
 unfold Aas
 split
 ·exact⟨hck,AeU _,rfl⟩
 ·rename_i j hj;obtain⟨hi,_,_⟩:=BJ hj;have hr:=(DO ((DZ h4).2 j hi).1).2.2.2.2.2.2;refine⟨Ct h1 (DP hck (List.Sublist.refl _) rfl rfl) (UF h4 hi (RU (fun x hx=>?_) (Na _ (L3 fun k hk h0=>(GA hr k hk).2.2 h0)))) h5 h6 h7,AeU _,rfl⟩;rcases Qx hx with rfl|hx
  ·rw[htg];exact⟨hp.1,hp.2.1⟩
  ·obtain⟨k,hk,rfl⟩:=DY hx;have:=GA hr k hk;exact⟨this.1,this.2.1⟩
theorem ZZ {s:Sta} {slot:Int} {c:TC} (r:Rs) (hck:AT s=0) (hc:Rw s.tb.node c):
  XE s (CT s slot c r).1/\((CT s slot c r).2.some=true->(CV s slot c).kind=2/\r.heard=true/\upF (CT s slot c r).2=KC r/\Td (KC r) s.tb.node=true):=by
 have hid:XE s s:=⟨hck,AeU _,rfl⟩;unfold CT
 split
 ·rename_i hk
  split
  ·exact⟨Ab9 hck hc hk.1 hk.2,fun h=>by cases h⟩
  ·exact⟨hid,fun h=>by cases h⟩
 ·rename_i hk
  split
  ·rename_i k1;exact⟨Wc _ hck (VL hck k1 (fun k2=>hk ⟨k1,k2⟩)).2.1,fun h=>by cases h⟩
  ·split
   ·rename_i k2;have hw:=Yg hck k2
    split
    ·rename_i hh;have hq:=WW (KC r) hw.1;refine⟨⟨hq.1.1,Ae4 hq.1.2.1 hw.2.1,hq.1.2.2.trans hw.2.2⟩,fun h=>?_⟩;have:=hq.2 h;rw[hw.2.2] at this;exact⟨k2,hh,this⟩
    ·exact⟨hw,fun h=>by cases h⟩
   ·exact⟨hid,fun h=>by cases h⟩
end Go.Proofs
end
