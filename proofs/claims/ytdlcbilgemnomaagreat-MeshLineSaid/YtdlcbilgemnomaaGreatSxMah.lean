/-
  What functions of the program hand back, and plain laws on that. No condition.
-/
import Derived.Test.YtdlcbilgemnomaaGreatSxMag
import Derived.Test.YtdlcbilgemnomaaGreatSxLibC
set_option linter.unusedSimpArgs false
set_option linter.unusedVariables false
section
namespace Go.Proofs
open Go Go.Sx Go.Proofs.T Go.Proofs.Q
set_option maxRecDepth 4000
attribute [local irreducible] VR VC thenQ blockQ retL
theorem Adz (l:List Hd) (p:Hd->Bool) (hl:l.length<=100000):FnS Tryz.prog 161 [.c (.row 0 l.length),.clo (E6 p)] [(0,.row 110 5 (rowOf Hd.enc l))]
  (.c (.row 0 (l.filter fun x=>!p x).length)) [(0,.row 110 5 (rowOf Hd.enc (l.filter fun x=>!p x)))]:=by
 refine FnS.Bw (enters_of Tryz.func161 (by kernel_rfl) rfl) Tryz.func161 rfl Tryz.ntmps161 Tryz.results161 rfl (by first|rfl|(simp only[A0,wfL,AH,wfs,Ae,Ad];rfl)) rfl fun E=>?_
 refine AJ ?_;have hidx:=Vx l p;cases hf:Fs l p with
 |none=>
  rw[hf] at hidx;have hidx':FnS Tryz.prog 217 [AD (hds l),.clo (E6 p)] [] (AI (-1)) []:=hidx
  repeat'(first|refine sB ?_|refine Ak rfl (by exact tt0) ?_|(refine gC ?_;first|refine AF [0] (hidx') (gk rfl) rfl (by(repeat'(first|exact .nil|refine .cons ?_ ?_|exact .clo|exact(.of0 (.c (A9 (by simp) rfl rfl (fun _=>rfl))))))<;>fail) (by rfl) rfl (by rfl) rfl (by exact Av) rfl ?_)|(refine gD ?_;first|refine Ai rfl ?_)|fail)
  have e:l.filter (fun x=>!p x)=l:=Go.Sx.filter_none (EK hf);rw[e];exact J9 (Bn Ab rfl rfl)
 |some i=>
  rw[hf] at hidx;obtain⟨hi,hpi,hlt⟩:=BJ hf;have hidx':FnS Tryz.prog 217 [AD (hds l),.clo (E6 p)] [] (AI (i:Nat)) []:=hidx
  repeat'(first|refine sC ?_|refine Ak rfl (by first|exact tt0|omega) ?_|(refine gC ?_;first|refine AF [0] (hidx') (gk rfl) rfl (by(repeat'(first|exact .nil|refine .cons ?_ ?_|exact .clo|exact(.of0 (.c (A9 (by simp) rfl rfl (fun _=>rfl))))))<;>fail) (by rfl) rfl (by rfl) rfl (by exact Av) rfl ?_)|(refine gD ?_;first|refine Ah rfl ?_)|fail)
  refine AK (ι:=Nat×Nat×List Hd) (fun q=>AS [(0,.c (.row 0 l.length)),(1,.clo (E6 p)),(5,AI q.2.1),(6,AI q.1)] [(0,.row 110 5 (rowOf Hd.enc q.2.2))])
   (fun q=>q.1<=l.length/\q.2.1<q.1/\q.2.2.length=l.length/\q.2.2.take q.2.1=(l.take q.1).filter (fun x=>!p x)/\q.2.2.drop q.1=l.drop q.1) (fun q=>l.length-q.1) (i+1,i,l) ⟨hi,Nat.lt_succ_self _,rfl,Go.Sx.Ia hi hpi hlt,rfl⟩ ?_ ?_
  ·exact Ck ⟨rfl,rfl,rfl,rfl,trivial⟩ ⟨rfl,trivial⟩ (by simp only[wfL,wfs];rfl)
  ·rintro⟨k,j,L⟩ ⟨h1,h2,h3,h4,h5⟩;dsimp only at h1 h2 h3 h4 h5 ⊢
   repeat'(first|refine sR ?_|refine Ak rfl (by first|exact tt0|omega) ?_|(refine gC ?_;first|refine E2 (⟨_,rfl,rfl⟩) (gk rfl) rfl rfl rfl rfl ?_)|(refine gI ?_;first|refine BG (gk rfl) rfl rfl rfl rfl rfl rfl (by omega) (by omega) rfl ?_)|(refine gE ?_;first|refine BB (gk rfl) rfl rfl (by(simp only[lns]<;>omega)) rfl rfl ?_)|(refine gL ?_;first|refine Dj (gk rfl) rfl rfl (by omega) rfl rfl rfl ?_)|(refine gS ?_;first|refine By (gk rfl) rfl rfl rfl (by omega) rfl rfl rfl ?_)|refine sq 11 rfl ?_|(refine gD ?_;first|(refine Ay rfl ?_ ?_<;>intro h<;>have hq:=h<;>(try simp only[hqs] at hq)))|refine B0 ?_|fail)
   ·have hk:k<l.length:=by omega
    obtain⟨hx,hd⟩:=Go.Sx.EO h3 h5 hk;refine⟨(k+1,j+1,L.set j (L.getD k default)),⟨by dsimp only;omega,by dsimp only;omega,by simp[h3],?_,?_⟩,by dsimp only;omega,Am (fun n=>n) ⟨⟨_,rfl,.c (.row rfl rfl)⟩,⟨_,rfl,.clo⟩,⟨_,rfl,.c .d⟩,⟨_,rfl,.c .d⟩,trivial⟩
     ⟨⟨_,rfl,.Bc (DJ rfl) Ag⟩,trivial⟩ rfl (by simp only[wfL,wfs];rfl)⟩
    ·dsimp only;rw[Go.Sx.take_set (by omega),h4,Go.Sx.Ce hk,List.filter_append,hx,List.filter_cons_of_pos (by rw[<-hx];exact h)];rfl
    ·dsimp only;rw[List.drop_set_of_lt (by omega),hd]
   ·have hk:k<l.length:=by omega
    obtain⟨hx,hd⟩:=Go.Sx.EO h3 h5 hk;refine⟨(k+1,j,L),⟨by dsimp only;omega,by dsimp only;omega,h3,?_,hd⟩,by dsimp only;omega,Am (fun n=>n) ⟨⟨_,rfl,.c (.row rfl rfl)⟩,⟨_,rfl,.clo⟩,⟨_,rfl,.c .d⟩,⟨_,rfl,.c .d⟩,trivial⟩
     ⟨⟨_,rfl,.Bc rfl Ag⟩,trivial⟩ rfl (by simp only[wfL,wfs];rfl)⟩
    dsimp only;rw[h4,Go.Sx.Ce hk,List.filter_append,List.filter_cons_of_neg (by rw[<-hx,h];simp)];simp
   ·have hk:k=l.length:=by omega
    subst hk;refine En (nm:=0) rfl (E3 (by omega)) fun cp spare hcp hmax=>?_
    rw[Al] at hcp
    repeat'(first|refine sB ?_|refine Ak rfl (by exact tt0) ?_|(show VR _ _ _ (⟨_,.slice _ _ _ _ _,_,_,_,_⟩ :: _) _ _ _;first|refine B8 (gk rfl) rfl rfl (by exact .full) rfl rfl (by first|exact .no|exact .int rfl rfl) (by omega) (by omega) rfl ?_|refine Bi (gk rfl) rfl rfl (by exact .full) rfl rfl (by exact .int rfl rfl) (by exact .no) (by omega) (by omega) (by omega) rfl ?_)|(show VR _ _ _ (⟨_,.call ⟨.builtin .clear,_,_⟩,_,_,_,_⟩ :: _) _ _ _;first|refine Jn (gk rfl) rfl (by exact .sub) rfl rfl rfl rfl rfl (by(simp only[lns];omega)) ?_)|fail)
    rw[List.take_length] at h4;have hj:(l.filter fun x=>!p x).length=j:=by rw[<-h4,Ags];omega
    rw[hj,<-h4];refine Ao (Am (l:=[(4,.c (.row 0 j))]) (b:=[(0,.row 110 5 (rowOf Hd.enc (L.take j)))]) (fun n=>n) ⟨⟨_,rfl,.c (.row rfl rfl)⟩,trivial⟩ ⟨⟨_,rfl,.Ji j ?_⟩,trivial⟩ rfl (by simp only[wfL,wfs];rfl)) (Bn Ab rfl rfl);rw[AgE,List.take_append_of_le_length (by rw[Ags,Al];omega),List.take_take,Nat.min_self,CN]
theorem Th (x:Hd) (t:Int):FnS Tryz.prog 162 [hdA x,AD (.pt 1 fun _=>.int .i64 t)] [] (AB (decide (x.til<t))) []:=by
 refine fb Tryz.func162 (by kernel_rfl) rfl Tryz.ntmps162 Tryz.results162 rfl rfl rfl rfl fun E hS=>?_
 repeat'(first|refine sB ?_|(refine gL ?_;first|refine Ln (gk rfl) rfl rfl rfl rfl ?_)|refine Ak rfl (by exact tt0) ?_|fail)
 all_goals exact Aw Ab rfl rfl
theorem Ve {σ:St} {t:Int} {L:List Nat}:AR Tryz.prog σ L (.fnc 162 [.d (.pt 1 fun _=>.int .i64 t)]) (.clo (E6 fun x=>decide (x.til<t))):=
 .fnc (eps:=[AD (.pt 1 fun _=>.int .i64 t)]) (.cons (.c .d) .nil) (enters_of Tryz.func162 (by kernel_rfl) rfl)
  (by rintro _ _ ⟨x,rfl,rfl⟩;exact⟨rfl,Th x t⟩)
abbrev RX (l:List Hd) (slot:Int):List Hd:=l.filter fun h=>!decide (h.til<slot)
set_option maxHeartbeats 2000000 in
theorem Oi (s:Sta) (slot:Int):FnS Tryz.prog 121 [stA s,AI slot] [] (.tup [stA (Cv s slot).1,AD (pks (Cv s slot).2.1),AI (Cv s slot).2.2]) []:=by
 have hck:=Dv s;refine fb Tryz.func121 (by kernel_rfl) rfl Tryz.ntmps121 Tryz.results121 rfl rfl rfl rfl fun E hS=>?_
 refine AJ ?_;by_cases hc:AQ s=0
 ·rw[hc] at hck;have hhl:=(D8 (Bf hc).2.2.2.1).1;by_cases hs:slot<0\/109951162<slot
  ·have e:Cv s slot=(noS,[],2):=by rw[Cv,AgY (by omega),AgZ hs]
   have d1:(!decide (0<=slot/\slot<=109951162))=true:=by simp only[Bool.not_eq_true',Agm];omega
   rw[e]
   repeat'(first|refine sB ?_|refine Ak rfl (by exact tt0) ?_|(refine gC ?_;first|refine Aa (hck) (gk rfl) rfl rfl rfl (by rfl) rfl (by exact Av) rfl ?_|refine Aa (BD _ _) (gk rfl) rfl rfl rfl (by rfl) rfl (by exact Av) rfl ?_)|(refine gD ?_;first|refine Ai rfl ?_|refine Ah rfl ?_|refine At rfl (by assumption) ?_)|fail)
   refine Ao (Am (l:=[(4,.c (.ptr 4 0)),(5,AD (pks [])),(6,AI 2)]) (b:=[(4,.box noS.cs)]) (fun n=>n) ?_ ?_ rfl (by rfl)) (Bt Ab rfl rfl rfl rfl rfl rfl rfl rfl rfl)
   all_goals repeat'(first|exact tt0|refine⟨⟨_,rfl,?_⟩,?_⟩|exact .c .d|exact .c (.ptr rfl)|exact .c .nil|refine .box ?_|exact .nil|refine .cons ?_ ?_|exact .d|fail)
  ·have e:Cv s slot=(DI {s with held:=RX s.held slot,qu:=(C1 s.qu slot).1},(C1 s.qu slot).2,0):=by rw[Cv,AgY (by omega),AgY hs]
   have d1:(!decide (0<=slot/\slot<=109951162))=false:=by simp only[Bool.not_eq_false',Agl];omega
   rw[e]
   repeat'(first|refine sR ?_|refine Ak rfl (by exact tt0) ?_|(refine gC ?_;first|refine Aa (hck) (gk rfl) rfl rfl rfl (by rfl) rfl (by exact Av) rfl ?_|refine Aa (BD _ _) (gk rfl) rfl rfl rfl (by rfl) rfl (by exact Av) rfl ?_|refine Aa (DE s hc) (gk rfl) rfl rfl rfl (by(simp only[A0,wfL,AH,wfs,Ae,Ad];rfl)) rfl (by((simp only[Ex,List.map_cons,List.map_nil,Blk.shift,Cr])<;>rfl)) rfl ?_)|refine sq 6 rfl ?_|(refine gD ?_;first|refine Ah rfl ?_|refine At rfl (by assumption) ?_)|fail)
   refine VC.le (σ':=AS [(2,.c (.ptr 2 0)),(3,AD (.pt 1 fun _=>.int .i64 slot)),(4,.c (.ptr 4 0)),(5,AD .Db),(6,AI 0)] [(2,.box (s.csR (.row 101 s.held.length) (.d (sns s.seen)))),(4,.box noS.cs),(101,.row 110 5 (rowOf Hd.enc s.held))]) ?_ ?_
   ·refine Bm (fun n=>if n=101 then 18101 else n) [18102,3] hS ?_ ?_ rfl (by(simp only[wfL,wfs,Ae,Ad];rfl))
    all_goals repeat'(first|exact tt0|refine⟨⟨_,rfl,?_⟩,?_⟩|exact .c .d|exact .c (.ptr rfl)|exact .Bc rfl Ag|refine .box ?_|exact .nil|refine .cons ?_ ?_|exact .d|exact .row rfl rfl|exact .Cd (by(simp;done)) rfl rfl (fun _=>rfl)|fail)
    exact .c (.cr (.ptr (by simp) rfl fun j hj=>by
     have:j=0:=by omega
     subst this;rfl))
   repeat'(first|refine sR ?_|(refine gL ?_;first|refine Ln (gk rfl) rfl rfl rfl rfl ?_)|refine Ak rfl (by exact tt0) ?_|(refine gC ?_;first|refine Aa (QG s.qu slot) (gk rfl) rfl rfl rfl (by rfl) rfl (by exact Av) rfl ?_|refine Cy [] (Adz s.held (fun h=>decide (h.til<slot)) (by omega)) (gk rfl) rfl rfl Ag rfl (.cons Ve .nil) rfl (by rfl) rfl (by(simp only[A0,wfL,AH,wfs,Ae,Ad];rfl)) rfl (by exact Bx) rfl ?_)|refine sq 9 rfl ?_|fail)
   refine VC.le (σ':=AS [(2,.c (.ptr 2 0)),(4,.c (.ptr 4 0)),(5,AD .Db),(6,AI 0),(8,AD (pks (C1 s.qu slot).2))] [(2,.box (Sta.cs {s with held:=RX s.held slot,qu:=(C1 s.qu slot).1})),(4,.box noS.cs)]) ?_ ?_
   ·refine Bm (fun n=>n) [22000] hS ?_ ?_ rfl (by rfl)
    all_goals repeat'(first|exact tt0|refine⟨⟨_,rfl,?_⟩,?_⟩|exact .c .d|exact .c (.ptr rfl)|exact .Bs rfl rfl|refine .box ?_|exact .nil|refine .cons ?_ ?_|exact .d|exact .Cd (by(simp;done)) rfl rfl (fun _=>rfl)|fail)
   repeat'(first|refine sB ?_|refine Ak rfl (by exact tt0) ?_|(refine gC ?_;first|refine Aa (J2 {s with held:=RX s.held slot,qu:=(C1 s.qu slot).1}) (gk rfl) rfl rfl rfl (by rfl) rfl (by exact Av) rfl ?_)|fail)
   refine Ao (Am (l:=[(4,.c (.ptr 4 0)),(5,AD (pks (C1 s.qu slot).2)),(6,AI 0)]) (b:=[(4,.box (DI {s with held:=RX s.held slot,qu:=(C1 s.qu slot).1}).cs)]) (fun n=>n) ?_ ?_ rfl (by rfl)) (Bt Ab rfl rfl rfl rfl rfl rfl rfl rfl rfl)
   all_goals repeat'(first|exact tt0|refine⟨⟨_,rfl,?_⟩,?_⟩|exact .c .d|exact .c (.ptr rfl)|exact .Bs rfl rfl|fail)
 ·have e:Cv s slot=(noS,[],1):=by rw[Cv,AgZ hc]
  have hd:decide (AQ s≠0)=true:=by simp[hc]
  rw[e]
  repeat'(first|refine sB ?_|refine Ak rfl (by exact tt0) ?_|(refine gC ?_;first|refine Aa (hck) (gk rfl) rfl rfl rfl (by rfl) rfl (by exact Av) rfl ?_)|(refine gD ?_;first|refine Ai rfl ?_|refine At rfl (by assumption) ?_)|fail)
  refine Ao (Am (l:=[(4,.c (.ptr 4 0)),(5,AD (pks [])),(6,AI 1)]) (b:=[(4,.box noS.cs)]) (fun n=>n) ?_ ?_ rfl (by rfl)) (Bt Ab rfl rfl rfl rfl rfl rfl rfl rfl rfl)
  all_goals repeat'(first|exact tt0|refine⟨⟨_,rfl,?_⟩,?_⟩|exact .c .d|exact .c (.ptr rfl)|exact .c .nil|refine .box ?_|exact .nil|refine .cons ?_ ?_|exact .d|fail)
end Go.Proofs
end
section
namespace Go.Proofs.M
open Go Go.Sx Go.Proofs Go.Proofs.T Go.Proofs.Q
open Go.Proofs.P (Nb nbs Rk rkA rkErr checkNb hearM countM forgetM select')
open Go.Proofs.R (startM advM)
set_option maxRecDepth 4000
attribute [local irreducible] VR VC thenQ blockQ retL
abbrev PhS (f:FuncId) (slot turns:Int) (nv:D) (loads:List Ld) (sil:List Si) (arr:List Ar) (w v:Wk):Prop:=
 FnW Tryz.prog f [.c (.ptr 100 0),.c (.ptr 101 0)] [(100,.box [.d (.int .i64 slot),.d (.int .i64 turns),.d nv,.d (lds loads),.d (sis sil),.row 102 arr.length]),(101,.box w.cs),(102,.row 62 3 (rowOf Ar.enc arr))] [100,101,102] (.tup []) [(100,.box [.d (.int .i64 slot),.d (.int .i64 turns),.d nv,.d (lds loads),.d (sis sil),.row 102 arr.length]),(101,.box v.cs),(102,.row 62 3 (rowOf Ar.enc arr))]
set_option maxHeartbeats 1000000 in
theorem UZ (slot turns:Int) (nv:D) (loads:List Ld) (sil:List Si) (arr:List Ar) (w:Wk):PhS 87 slot turns nv loads sil arr w (Aa5 slot arr w).2:=by
 have hm:=Oi w.nd.st slot;intro r;simp only[Cg,List.map_cons,List.map_nil,List.cons_append,List.nil_append,Nat.reduceAdd];refine FnS.Bw (enters_of Tryz.func87 (by kernel_rfl) rfl) Tryz.func87 rfl Tryz.ntmps87 Tryz.results87 rfl (by first|rfl|(simp only[A0,wfL,AH,wfs,Ae,Ad];rfl)) rfl fun E=>?_
 refine AJ ?_;show VC E _ (retL E (Hr Tryz.prog _ _ [(9100,.pin 100 (r 100)),(9101,.pin 101 (r 101)),(9102,.pin 102 (r 102)),(100,.box [.d (.int .i64 slot),.d (.int .i64 turns),.d nv,.d (lds loads),.d (sis sil),.row 102 arr.length]),(101,.box (Wk.cs {w with nd:=Jb slot w.nd})),(102,.row 62 3 (rowOf Ar.enc arr))])) _;unfold Jb;by_cases h:(Cv w.nd.st slot).2.2=0
 ·have d1:decide ((Cv w.nd.st slot).2.2=0)=true:=Agj h;rw[AgZ h]
  repeat'(first|refine sB ?_|refine Ak rfl (by exact tt0) ?_|(refine gC ?_;first|refine Aa (hm) (gk rfl) rfl rfl rfl (by rfl) rfl (by rfl) rfl ?_)|(refine gN ?_;first|refine Aj (gk rfl) rfl rfl ?_)|refine Ap (by kernel_rfl) ?_|(refine gD ?_;first|refine Ai rfl ?_|refine At rfl (by assumption) ?_)|fail)
  refine Ao (Am (l:=[]) (b:=[(9100,.pin 100 (r 100)),(9101,.pin 101 (r 101)),(9102,.pin 102 (r 102)),(100,.box [.d (.int .i64 slot),.d (.int .i64 turns),.d nv,.d (lds loads),.d (sis sil),.row 102 arr.length]),(101,.box (Wk.cs {w with nd:={w.nd with st:=(Cv w.nd.st slot).1}})),(102,.row 62 3 (rowOf Ar.enc arr))]) (fun n=>n) ?_ ?_ rfl (by(simp only[wfL,wfs,Ae,Ad];rfl))) (DG BQ .nil rfl (by repeat'(first|exact tt0|refine⟨rfl,?_⟩)))
  all_goals repeat'(first|exact tt0|refine⟨⟨_,rfl,?_⟩,?_⟩|exact .Bs rfl rfl|exact .pin rfl|exact .Bc rfl Ag|refine .box ?_|exact .nil|refine .cons ?_ ?_|exact .d|exact .row rfl rfl|fail)
 ·have d1:decide ((Cv w.nd.st slot).2.2=0)=false:=Agk h;rw[AgY h]
  repeat'(first|refine sB ?_|refine Ak rfl (by exact tt0) ?_|(refine gC ?_;first|refine Aa (hm) (gk rfl) rfl rfl rfl (by rfl) rfl (by rfl) rfl ?_)|(refine gN ?_;first|refine Aj (gk rfl) rfl rfl ?_)|refine Ap (by kernel_rfl) ?_|(refine gD ?_;first|refine Ah rfl ?_|refine At rfl (by assumption) ?_)|fail)
  refine Ao (Am (l:=[]) (b:=[(9100,.pin 100 (r 100)),(9101,.pin 101 (r 101)),(9102,.pin 102 (r 102)),(100,.box [.d (.int .i64 slot),.d (.int .i64 turns),.d nv,.d (lds loads),.d (sis sil),.row 102 arr.length]),(101,.box (Wk.cs w)),(102,.row 62 3 (rowOf Ar.enc arr))]) (fun n=>n) ?_ ?_ rfl (by(simp only[wfL,wfs,Ae,Ad];rfl))) (DG BQ .nil rfl (by repeat'(first|exact tt0|refine⟨rfl,?_⟩)))
  all_goals repeat'(first|exact tt0|refine⟨⟨_,rfl,?_⟩,?_⟩|exact .Bs rfl rfl|exact .pin rfl|exact .Bc rfl Ag|refine .box ?_|exact .nil|refine .cons ?_ ?_|exact .d|exact .row rfl rfl|fail)
abbrev VL (slot:Int) (x:MN) (d:ByteArray):Pk:=⟨x.next,x.rk.parent,1,slot,256,d⟩
abbrev GiS (slot turns:Int) (nv:D) (loads:List Ld) (sil:List Si) (arr:List Ar) (w:Wk) (d:ByteArray):Prop:=
 FnW Tryz.prog 122 [.c (.ptr 100 0),.c (.ptr 101 0),AD (.str d)] [(100,.box [.d (.int .i64 slot),.d (.int .i64 turns),.d nv,.d (lds loads),.d (sis sil),.row 102 arr.length]),(101,.box w.cs),(102,.row 62 3 (rowOf Ar.enc arr))] [100,101,102] (.tup []) [(100,.box [.d (.int .i64 slot),.d (.int .i64 turns),.d nv,.d (lds loads),.d (sis sil),.row 102 arr.length]),(101,.box (Wk.cs {w with nd:=EY slot w.nd d})),(102,.row 62 3 (rowOf Ar.enc arr))]
set_option maxHeartbeats 2000000 in
theorem LB (slot turns:Int) (nv:D) (loads:List Ld) (sil:List Si) (arr:List Ar) (w:Wk) (d:ByteArray) (hx:0<=w.nd.next/\w.nd.next<=65535):GiS slot turns nv loads sil arr w d:=by
 have hm:=Vb w.nd.st (VL slot w.nd d);intro r;simp only[Cg,List.map_cons,List.map_nil,List.cons_append,List.nil_append,Nat.reduceAdd];refine FnS.Bw (enters_of Tryz.func122 (by kernel_rfl) rfl) Tryz.func122 rfl Tryz.ntmps122 Tryz.results122 rfl (by first|rfl|(simp only[A0,wfL,AH,wfs,Ae,Ad];rfl)) rfl fun E=>?_
 refine AJ ?_;unfold EY;by_cases h0:w.nd.rk.parent<0
 ·have d0:decide (w.nd.rk.parent<0)=true:=Agj h0;rw[AgZ h0]
  repeat'(first|refine sB ?_|refine Ak rfl (by exact tt0) ?_|(refine gN ?_;first|refine Aj (gk rfl) rfl rfl ?_)|(refine gD ?_;first|refine Ai rfl ?_|refine At rfl (by assumption) ?_)|fail)
  refine Ao (Am (l:=[]) (b:=[(9100,.pin 100 (r 100)),(9101,.pin 101 (r 101)),(9102,.pin 102 (r 102)),(100,.box [.d (.int .i64 slot),.d (.int .i64 turns),.d nv,.d (lds loads),.d (sis sil),.row 102 arr.length]),(101,.box (Wk.cs w)),(102,.row 62 3 (rowOf Ar.enc arr))]) (fun n=>n) ?_ ?_ rfl (by(simp only[wfL,wfs,Ae,Ad];rfl))) (DG Ab .nil rfl (by repeat'(first|exact tt0|refine⟨rfl,?_⟩)))
  all_goals repeat'(first|exact tt0|refine⟨⟨_,rfl,?_⟩,?_⟩|exact .Bs rfl rfl|exact .pin rfl|exact .Bc rfl Ag|refine .box ?_|exact .nil|refine .cons ?_ ?_|exact .d|exact .row rfl rfl|fail)
 ·have d0:decide (w.nd.rk.parent<0)=false:=Agk h0;rw[AgY h0];by_cases h:(I3 w.nd.st (VL slot w.nd d)).2.2=0
  ·have d1:decide ((I3 w.nd.st (VL slot w.nd d)).2.2=0)=true:=Agj h;rw[AgZ h]
   repeat'(first|refine sB ?_|refine Ak rfl (by first|exact tt0|omega) ?_|(refine gC ?_;first|refine Aa (hm) (gk rfl) rfl rfl rfl (by rfl) rfl (by rfl) rfl ?_)|(refine gN ?_;first|refine Aj (gk rfl) rfl rfl ?_)|refine Ap (by kernel_rfl) ?_|(refine gD ?_;first|refine Ai rfl ?_|refine Ah rfl ?_|refine At rfl (by assumption) ?_)|fail)
   refine Ao (Am (l:=[]) (b:=[(9100,.pin 100 (r 100)),(9101,.pin 101 (r 101)),(9102,.pin 102 (r 102)),(100,.box [.d (.int .i64 slot),.d (.int .i64 turns),.d nv,.d (lds loads),.d (sis sil),.row 102 arr.length]),(101,.box (Wk.cs {w with nd:={w.nd with st:=(I3 w.nd.st (VL slot w.nd d)).1,next:=(w.nd.next+1) % 65536}})),(102,.row 62 3 (rowOf Ar.enc arr))]) (fun n=>n) ?_ ?_ rfl (by(simp only[wfL,wfs,Ae,Ad];rfl))) (DG BQ .nil rfl (by repeat'(first|exact tt0|refine⟨rfl,?_⟩)))
   all_goals repeat'(first|exact tt0|refine⟨⟨_,rfl,?_⟩,?_⟩|exact .Bs rfl rfl|exact .pin rfl|exact .Bc rfl Ag|refine .box ?_|exact .nil|refine .cons ?_ ?_|exact .d|exact .row rfl rfl|fail)
  ·have d1:decide ((I3 w.nd.st (VL slot w.nd d)).2.2=0)=false:=Agk h;rw[AgY h]
   repeat'(first|refine sB ?_|refine Ak rfl (by exact tt0) ?_|(refine gC ?_;first|refine Aa (hm) (gk rfl) rfl rfl rfl (by rfl) rfl (by rfl) rfl ?_)|(refine gN ?_;first|refine Aj (gk rfl) rfl rfl ?_)|refine Ap (by kernel_rfl) ?_|(refine gD ?_;first|refine Ah rfl ?_|refine At rfl (by assumption) ?_)|fail)
   refine Ao (Am (l:=[]) (b:=[(9100,.pin 100 (r 100)),(9101,.pin 101 (r 101)),(9102,.pin 102 (r 102)),(100,.box [.d (.int .i64 slot),.d (.int .i64 turns),.d nv,.d (lds loads),.d (sis sil),.row 102 arr.length]),(101,.box (Wk.cs w)),(102,.row 62 3 (rowOf Ar.enc arr))]) (fun n=>n) ?_ ?_ rfl (by(simp only[wfL,wfs,Ae,Ad];rfl))) (DG BQ .nil rfl (by repeat'(first|exact tt0|refine⟨rfl,?_⟩)))
   all_goals repeat'(first|exact tt0|refine⟨⟨_,rfl,?_⟩,?_⟩|exact .Bs rfl rfl|exact .pin rfl|exact .Bc rfl Ag|refine .box ?_|exact .nil|refine .cons ?_ ?_|exact .d|exact .row rfl rfl|fail)
theorem ON {slot:Int} {x:MN} {d:ByteArray} (h:0<=x.next/\x.next<=65535):0<=(EY slot x d).next/\(EY slot x d).next<=65535:=by
 unfold EY
 split
 ·exact h
 ·split
  ·show 0<=(x.next+1) % 65536/\(x.next+1) % 65536<=65535;omega
  ·exact h
theorem HY {slot i:Int}:∀(ls:List Ld) {x:MN},0<=x.next/\x.next<=65535->0<=(CF slot i ls x).next/\(CF slot i ls x).next<=65535
 |[],_,h=>h
 |l :: ls,x,h=>by
  unfold CF
  split
  ·exact HY ls (ON h)
  ·exact HY ls h
theorem LL (slot i:Int):∀(a:List Ld) (l:Ld) (x:MN),CF slot i (a++[l]) x=if l.slot=slot/\l.node=i/\i≠0 then EY slot (CF slot i a x) (G2 i (CF slot i a x).next) else CF slot i a x
 |[],_,_=>rfl
 |b :: a,l,x=>LL slot i a l _
abbrev JB (p:Ar->Bool):List DV->DV->Prop:=fun ds r=>∃x:Ar,ds=[.agg x.enc]/\r=.d (.bool (p x))
theorem AaM (l:List Ar) (p:Ar->Bool):FnS Tryz.prog 60 [AD (ars l),.clo (JB p)] [] (AI (oI (Fs l p))) []:=by
 refine fb Tryz.func60 (by kernel_rfl) rfl Tryz.ntmps60 Tryz.results60 rfl rfl rfl rfl fun E hS=>?_
 refine B9 (t:=0) rfl fun hb=>?_
 repeat'(first|refine sC ?_|refine Ak rfl (by exact tt0) ?_|fail)
 refine AK (ι:=Nat) (fun k=>AS [(0,AD (ars l)),(1,.clo (JB p)),(7,AI l.length),(8,AI k)] []) (fun k=>k<=l.length/\∀i,i<k->p (l.getD i default)=false) (fun k=>l.length-k) 0 ⟨Ag1 _,fun i hi=>absurd hi (AgW _)⟩ ?_ ?_
 ·exact Ck ⟨rfl,rfl,rfl,rfl,trivial⟩ trivial rfl
 ·intro k hk
  repeat'(first|refine sC ?_|refine Ak rfl (by first|exact tt0|omega) ?_|(refine gC ?_;first|refine E2 (⟨_,rfl,rfl⟩) (gk rfl) rfl rfl rfl rfl ?_)|(refine gI ?_;first|refine Au (gk rfl) rfl rfl rfl rfl rfl (by omega) rfl ?_)|(refine gD ?_;first|(refine Ay rfl ?_ ?_<;>intro h<;>have hq:=h<;>(try simp only[hqs] at hq)))|fail)
  ·refine AG Ab rfl ?_;rw[Ey hk.2 (by omega) h];rfl
  ·refine⟨k+1,⟨by omega,fun i hi=>?_⟩,by omega,Ck ⟨rfl,rfl,rfl,rfl,trivial⟩ trivial rfl⟩;by_cases hik:i<k
   ·exact hk.2 i hik
   ·have:i=k:=by omega
    subst this;exact h
  ·refine AG Ab rfl ?_;have:k=l.length:=by omega
   subst this;rw[DR hk.2];rfl
theorem O4 (l:List Ar) (p:Ar->Bool):FnS Tryz.prog 30 [AD (ars l),.clo (JB p)] [] (AB (l.any p)) []:=by
 refine fb Tryz.func30 (by kernel_rfl) rfl Tryz.ntmps30 Tryz.results30 rfl rfl rfl rfl fun E hS=>?_
 repeat'(first|refine sB ?_|refine Ak rfl (by exact tt0) ?_|(refine gC ?_;first|refine AF [] (AaM l p) (gk rfl) rfl (by(repeat'(first|exact .nil|refine .cons ?_ ?_|exact .of0 (.c .d)|exact .clo))<;>fail) (by rfl) rfl (by rfl) rfl (by rfl) rfl ?_)|fail)
 all_goals exact Aw Ab rfl (E9 _ _).symm
def AbE (y x:Ar):Bool:=decide (x.origin=y.origin)&&decide (x.id=y.id)
theorem VO (x y:Ar):FnS Tryz.prog 133 [arA x,.ep (fun j=>y.enc.getD j .Db) 3] [] (AB (AbE y x)) []:=by
 refine fb Tryz.func133 (by kernel_rfl) rfl Tryz.ntmps133 Tryz.results133 rfl rfl rfl rfl fun E hS=>?_
 repeat'(first|refine sB ?_|refine Ak rfl (by exact tt0) ?_|(refine Ax rfl ?_ ?_<;>intro h<;>have hq:=h<;>(try simp only[hqs] at hq))|fail)
 all_goals(refine Aw Ab rfl ?_;unfold AbE;first|(simp_all;done)|(simp_all;omega))
theorem RU {σ:St} {y:Ar} {n1:Nat} {L:List Nat} (hL:n1∈L) (h1:σ (.b n1)=some (.k (.box y.cs))):AR Tryz.prog σ L (.fnc 133 [.ptr n1 0]) (.clo (JB (AbE y))):=
 .fnc (eps:=[.ep (fun j=>y.enc.getD j .Db) 3]) (.cons (.ptr hL h1 (fun j hj=>by
  have:j=0\/j=1\/j=2:=by omega
  rcases this with rfl|rfl|rfl<;>rfl)) .nil) (enters_of Tryz.func133 (by kernel_rfl) rfl)
  (by rintro _ _ ⟨x,rfl,rfl⟩;exact⟨rfl,VO x y⟩)
abbrev PhF (f:FuncId) (slot turns:Int) (nv:D) (loads:List Ld) (sil:List Si) (arr:List Ar) (w:Wk):Prop:=
 FnW Tryz.prog f [.c (.ptr 100 0),.c (.ptr 101 0)] [(100,.box [.d (.int .i64 slot),.d (.int .i64 turns),.d nv,.d (lds loads),.d (sis sil),.row 102 arr.length]),(101,.box w.cs),(102,.row 62 3 (rowOf Ar.enc arr))] [100,101] (.tup []) [(100,.box [.d (.int .i64 slot),.d (.int .i64 turns),.d nv,.d (lds loads),.d (sis sil),.row 102 (F6 slot arr w).1.length]),(101,.box (F6 slot arr w).2.cs),(102,.row 62 3 (rowOf Ar.enc (F6 slot arr w).1))]
theorem HB (s:ByteArray) (i:Nat):0<=bAt s i/\bAt s i<256:=by
 unfold bAt;have:=(s.data.toList.getD i 0).toNat_lt;omega
theorem Abi {a b:Nat} (ha:a<2^62) (hb:b<2^62):WS .or .i64 a b=((a ||| b:Nat):Int):=by
 rw[M5];unfold Abj;dsimp only;show IntKind.i64.wrap ((BitVec.ofInt 64 a ||| BitVec.ofInt 64 b).toNat:Int)=_;have h:a ||| b<2^62:=Nat.or_lt_two_pow ha hb;rw[BitVec.ofInt_natCast,BitVec.ofInt_natCast,BitVec.toNat_or,BitVec.toNat_ofNat,BitVec.toNat_ofNat,Nat.mod_eq_of_lt (a:=a) (by omega),Nat.mod_eq_of_lt (a:=b) (by omega),wrap_i64 (by omega)]
theorem AcG {a b:Int} (ha:0<=a/\a<256) (hb:0<=b/\b<256):WS .or .i64 (IntKind.i64.wrap (IntKind.i64.wrap a*2^Int.toNat 8)) (IntKind.i64.wrap b)=256*a+b:=by
 have e8:(2:Int)^Int.toNat 8=256:=by decide
 rw[e8,wrap_i64 (a:=a) (by omega),wrap_i64 (a:=b) (by omega),wrap_i64 (by omega)];have h1:a*256=((2^8*a.toNat:Nat):Int):=by omega
 have h2:b=((b.toNat:Nat):Int):=by omega
 rw[h1]
 conv=>lhs;rw[h2]
 rw[Abi (by omega) (by omega),YQ (by omega)];omega
set_option maxHeartbeats 4000000 in
set_option maxRecDepth 100000 in
theorem UY (slot turns:Int) (nv:D) (loads:List Ld) (sil:List Si) (arr:List Ar) (w:Wk) (hx:0<=w.nd.next/\w.nd.next<=65535) (hal:arr.length<=4096):PhF 93 slot turns nv loads sil arr w:=by
 have hgi:=LB slot turns nv loads sil arr w w.up.data hx;have hcf:=O4 arr (AbE (Na w.up.data slot));intro r;simp only[Cg,List.map_cons,List.map_nil,List.cons_append,List.nil_append,Nat.reduceAdd];refine FnS.Bw (enters_of Tryz.func93 (by kernel_rfl) rfl) Tryz.func93 rfl Tryz.ntmps93 Tryz.results93 rfl (by first|rfl|(simp only[A0,wfL,AH,wfs,Ae,Ad];rfl)) rfl fun E=>?_
 refine AJ ?_;have hno:Li w=false->F6 slot arr w=(arr,w):=fun h=>AgZ h
 cases h1:w.up.new with
 |false=>
  have d1:(!w.up.new)=true:=by rw[h1];rfl
  rw[hno (by unfold Li;rw[h1];rfl)]
  repeat'(first|refine sB ?_|refine Ak rfl (by exact tt0) ?_|(refine gN ?_;first|refine Aj (gk rfl) rfl rfl ?_)|refine Az rfl (by assumption) ?_|refine Ap (by kernel_rfl) ?_|(refine gD ?_;first|refine Ai rfl ?_)|fail)
  refine Ao (Am (l:=[]) (b:=[(9100,.pin 100 (r 100)),(9101,.pin 101 (r 101)),(100,.box [.d (.int .i64 slot),.d (.int .i64 turns),.d nv,.d (lds loads),.d (sis sil),.row 102 arr.length]),(101,.box (Wk.cs w)),(102,.row 62 3 (rowOf Ar.enc arr))]) (fun n=>n) ?_ ?_ rfl (by(simp only[wfL,wfs,Ae,Ad];rfl))) (DG Ab .nil rfl (by repeat'(first|exact tt0|refine⟨rfl,?_⟩)))
  all_goals repeat'(first|exact tt0|refine⟨⟨_,rfl,?_⟩,?_⟩|exact .Bs rfl rfl|exact .pin rfl|exact .Bc rfl Ag|refine .box ?_|exact .nil|refine .cons ?_ ?_|exact .d|exact .row rfl rfl|fail)
 |true=>
  have d1:(!w.up.new)=false:=by rw[h1];rfl
  by_cases h2:w.up.BF=4
  ·have d2:decide (w.up.BF≠4)=false:=Agk (by simpa using h2);by_cases h3:w.up.target=w.node
   ·have d3:decide (w.up.target≠w.node)=false:=Agk (by simpa using h3);by_cases h4:w.up.data.size=3
    ·have d4:decide ((w.up.data.size:Int)≠3)=false:=Agk (by omega);have hf:Li w=true:=by unfold Li;rw[h1,Agj h2,Agj h3,Agj h4];rfl
     by_cases h5:w.node=0
     ·have d5:decide (w.node≠0)=false:=Agk (by simpa using h5);have e:F6 slot arr w=(Dm arr w.up.data slot,w):=by
       unfold F6;rw[AgY (by rw[hf];simp),AgY (by simpa using h5)]
      have b0:=HB w.up.data 0;have b1:=HB w.up.data 1;have b2:=HB w.up.data 2;rw[e];dsimp only
      repeat'(first|refine sR ?_|(show VR _ _ _ (⟨_,.binOp .shl _ _ _ _,_,_,_,_⟩ :: _) _ _ _;first|refine Mb (gk rfl) rfl rfl (by omega) (by decide) rfl rfl ?_)|refine Ak rfl (by exact tt0) ?_|(refine gX ?_;first|refine Dn (m:=0) (gk rfl) rfl rfl rfl (by decide) (by omega) rfl rfl ?_|refine Dn (gk rfl) rfl rfl rfl (by omega) (by omega) (by exact(Int.toNat_natCast _).symm) rfl ?_)|(refine gN ?_;first|refine Aj (gk rfl) rfl rfl ?_)|(refine gV ?_;first|refine A4 (gk rfl) rfl ⟨_,rfl⟩ rfl (by exact wrap_i64 (by omega)) rfl ?_|refine C3 (gk rfl) rfl ⟨_,rfl⟩ rfl rfl ?_)|(refine gB ?_;first|refine PH (gk rfl) rfl rfl rfl rfl rfl ?_)|refine Az rfl (by assumption) ?_|refine Ap (by kernel_rfl) ?_|refine sq 5 rfl ?_|(refine gD ?_;first|refine Ah rfl ?_|refine At rfl (by assumption) ?_)|fail)
      refine VC.le (σ':=AS [(0,.c (.ptr 100 0)),(1,.c (.ptr 101 0)),(5,.c (.ptr 5 0))] [(9100,.pin 100 (r 100)),(9101,.pin 101 (r 101)),(100,.box [.d (.int .i64 slot),.d (.int .i64 turns),.d nv,.d (lds loads),.d (sis sil),.row 102 arr.length]),(101,.box w.cs),(102,.row 62 3 (rowOf Ar.enc arr)),(5,.box (Na w.up.data slot).cs)]) ?_ ?_
      ·have ek:WS .or .i64 (IntKind.i64.wrap (IntKind.i64.wrap (bAt w.up.data 1)*2^Int.toNat 8)) (IntKind.i64.wrap (bAt w.up.data 2))=256*bAt w.up.data 1+bAt w.up.data 2:=AcG b1 b2;have ew:IntKind.i64.wrap (bAt w.up.data 0)=bAt w.up.data 0:=wrap_i64 (by omega);show Le _ _ (AS _ [_,_,_,_,_,(5,.box [.d (.int .i64 (bAt w.up.data 0)),.d (.int .i64 (256*bAt w.up.data 1+bAt w.up.data 2)),.d (.int .i64 slot)])]);rw[<-ek];refine Am (fun n=>n) ?_ ?_ rfl (by(simp only[wfL,wfs,Ae,Ad];rfl))
       all_goals repeat'(first|exact tt0|refine⟨⟨_,rfl,?_⟩,?_⟩|exact .c (.ptr rfl)|exact .Bs rfl rfl|exact .pin rfl|exact .Bc rfl Ag|refine .box ?_|exact .nil|refine .cons ?_ ?_|exact .d|exact .row rfl rfl|fail)
      cases h6:arr.any (AbE (Na w.up.data slot)) with
      |true=>
       have ea:Dm arr w.up.data slot=arr:=AgZ h6;rw[h6] at hcf;rw[ea]
       repeat'(first|refine sB ?_|refine Ak rfl (by exact tt0) ?_|(refine gC ?_;first|refine AF [5,102] (hcf) (gk rfl) rfl (by(repeat'(first|exact .nil|refine .cons ?_ ?_|exact(RU (by simp) rfl)|exact .of0 (.c (A9 (by simp) rfl (by rfl) (fun _=>rfl)))))<;>fail) (by rfl) rfl (by rfl) rfl (by rfl) rfl ?_)|(refine gN ?_;first|refine Aj (gk rfl) rfl rfl ?_)|(refine gD ?_;first|refine Ah rfl ?_)|fail)
       refine Ao (Am (l:=[]) (b:=[(9100,.pin 100 (r 100)),(9101,.pin 101 (r 101)),(100,.box [.d (.int .i64 slot),.d (.int .i64 turns),.d nv,.d (lds loads),.d (sis sil),.row 102 arr.length]),(101,.box (Wk.cs w)),(102,.row 62 3 (rowOf Ar.enc arr))]) (fun n=>n) ?_ ?_ rfl (by(simp only[wfL,wfs,Ae,Ad];rfl))) (DG BQ .nil rfl (by repeat'(first|exact tt0|refine⟨rfl,?_⟩)))
       all_goals repeat'(first|exact tt0|refine⟨⟨_,rfl,?_⟩,?_⟩|exact .Bs rfl rfl|exact .pin rfl|exact .Bc rfl Ag|refine .box ?_|exact .nil|refine .cons ?_ ?_|exact .d|exact .row rfl rfl|fail)
      |false=>
       rw[h6] at hcf;have en:¬(arr.any fun x=>decide (x.origin=(Na w.up.data slot).origin)&&decide (x.id=(Na w.up.data slot).id))=true:=by
        show ¬arr.any (AbE (Na w.up.data slot))=true;rw[h6];simp
       repeat'(first|refine sR ?_|refine Ak rfl (by exact tt0) ?_|(refine gC ?_;first|refine AF [5,102] (hcf) (gk rfl) rfl (by(repeat'(first|exact .nil|refine .cons ?_ ?_|exact(RU (by simp) rfl)|exact .of0 (.c (A9 (by simp) rfl (by rfl) (fun _=>rfl)))))<;>fail) (by rfl) rfl (by rfl) rfl (by rfl) rfl ?_)|(refine gN ?_;first|refine Aj (gk rfl) rfl rfl ?_)|refine sq 6 rfl ?_|fail)
       refine VC.le (σ':=AS [(0,.c (.ptr 100 0)),(1,.c (.ptr 101 0)),(5,.c (.ptr 5 0)),(6,AB false)] [(9100,.pin 100 (r 100)),(9101,.pin 101 (r 101)),(100,.box [.d (.int .i64 slot),.d (.int .i64 turns),.d nv,.d (lds loads),.d (sis sil),.row 102 arr.length]),(101,.box w.cs),(102,.row 62 3 (rowOf Ar.enc arr)),(5,.box (Na w.up.data slot).cs)]) ?_ ?_
       ·refine Am (fun n=>n) ?_ ?_ rfl (by(simp only[wfL,wfs,Ae,Ad];rfl))
        all_goals repeat'(first|exact tt0|refine⟨⟨_,rfl,?_⟩,?_⟩|exact .c .d|exact .c (.ptr rfl)|exact .Bs rfl rfl|exact .pin rfl|exact .Bc rfl Ag|refine .box ?_|exact .nil|refine .cons ?_ ?_|exact .d|exact .row rfl rfl|fail)
       by_cases h7:4096<=arr.length
       ·have d7:decide ((arr.length:Int)<4096)=false:=Agk (by omega);have ea:Dm arr w.up.data slot=arr:=by unfold Dm;rw[AgY en,AgZ h7]
        rw[ea];clear h7
        repeat'(first|refine sB ?_|refine Ak rfl (by exact tt0) ?_|(refine gE ?_;first|refine BB (gk rfl) rfl rfl (by exact Al.symm) rfl rfl ?_)|(refine gN ?_;first|refine Aj (gk rfl) rfl rfl ?_)|(refine gD ?_;first|refine Ah rfl ?_|refine At rfl (by assumption) ?_)|fail)
        refine Ao (Am (l:=[]) (b:=[(9100,.pin 100 (r 100)),(9101,.pin 101 (r 101)),(100,.box [.d (.int .i64 slot),.d (.int .i64 turns),.d nv,.d (lds loads),.d (sis sil),.row 102 arr.length]),(101,.box (Wk.cs w)),(102,.row 62 3 (rowOf Ar.enc arr))]) (fun n=>n) ?_ ?_ rfl (by(simp only[wfL,wfs,Ae,Ad];rfl))) (DG BQ .nil rfl (by repeat'(first|exact tt0|refine⟨rfl,?_⟩)))
        all_goals repeat'(first|exact tt0|refine⟨⟨_,rfl,?_⟩,?_⟩|exact .Bs rfl rfl|exact .pin rfl|exact .Bc rfl Ag|refine .box ?_|exact .nil|refine .cons ?_ ?_|exact .d|exact .row rfl rfl|fail)
       ·have d7:decide ((arr.length:Int)<4096)=true:=Agj (by omega);have ea:Dm arr w.up.data slot=arr++[Na w.up.data slot]:=by unfold Dm;rw[AgY en,AgY h7]
        rw[ea];clear h7
        repeat'(first|refine sB ?_|refine Ak rfl (by exact tt0) ?_|(refine gE ?_;first|refine BB (gk rfl) rfl rfl (by exact Al.symm) rfl rfl ?_)|(refine gA ?_;first|refine Be (gk rfl) rfl rfl rfl (by exact Al.symm) (by exact .row rfl (by rfl)) rfl rfl rfl (by(try dsimp only);omega) rfl rfl ?_)|(refine gN ?_;first|refine Aj (gk rfl) rfl rfl ?_)|refine Ap (by kernel_rfl) ?_|(refine gD ?_;first|refine Ai rfl ?_|refine At rfl (by assumption) ?_)|fail)
        refine Ao (Am (l:=[]) (b:=[(9100,.pin 100 (r 100)),(9101,.pin 101 (r 101)),(100,.box [.d (.int .i64 slot),.d (.int .i64 turns),.d nv,.d (lds loads),.d (sis sil),.row 102 (arr++[Na w.up.data slot]).length]),(101,.box (Wk.cs w)),(102,.row 62 3 (rowOf Ar.enc (arr++[Na w.up.data slot])))]) (fun n=>if n=102 then 90 else n) ?_ ?_ rfl (by(simp only[wfL,wfs,Ae,Ad];rfl))) (DG BQ .nil rfl (by repeat'(first|exact tt0|refine⟨rfl,?_⟩)))
        all_goals repeat'(first|exact tt0|refine⟨⟨_,rfl,?_⟩,?_⟩|exact .Bs rfl rfl|exact .pin rfl|(refine .Bc ?_ Ag;rw[AZ];rfl)|refine .box ?_|exact .nil|refine .cons ?_ ?_|exact .d|(refine .row rfl ?_;((try dsimp only);first|(simp only[lns]<;>omega));done)|fail)
     ·have d5:decide (w.node≠0)=true:=Agj h5;have e:F6 slot arr w=(arr,⟨EY slot w.nd w.up.data,w.node,w.ac,w.bc,w.rs,w.up⟩):=by
       unfold F6;rw[AgY (by rw[hf];simp),AgZ h5]
      rw[e]
      repeat'(first|(refine gR ?_;first|refine Ak rfl (by exact tt0) ?_|(refine gC ?_;first|refine B4 (nmL []) [] [100,101,102] (hgi) (gk rfl) rfl rfl (by(repeat'(first|exact .nil|refine .cons ?_ ?_|exact .w (.c (.ptr rfl)) rfl|exact .r (.of0 (.c .d))))<;>fail) (by(repeat'(first|exact tt0|refine⟨⟨_,rfl,?_⟩,?_⟩|exact .Bs rfl rfl|exact .Bc rfl Ag|refine .box ?_|exact .nil|refine .cons ?_ ?_|exact .d|exact .row rfl rfl))<;>fail) rfl rfl rfl (by rfl) rfl (by(simp only[A0,wfL,AH,wfs,Ae,Ad];rfl)) rfl rfl rfl (by(simp only[F5,List.map_cons,List.map_nil,Blk.ren,C.ren,Bp,BU,BT,gW,D1,nmL,Nat.reduceBEq,Bool.or_false,Bool.or_true,Bool.false_or,Bool.true_or,cond_true,cond_false,Nat.reduceMul,Nat.reduceAdd])<;>rfl) (by(simp only[AV.ren,AV.HQ,List.map_cons,List.map_nil,C.ren,gW,D1,nmL,Nat.reduceBEq,Bool.or_false,Bool.or_true,Bool.false_or,Bool.true_or,cond_true,cond_false,Nat.reduceMul,Nat.reduceAdd])<;>rfl) rfl ?_)|(refine gN ?_;first|refine Aj (gk rfl) rfl rfl ?_)|refine Az rfl (by assumption) ?_)|(refine gO ?_;first|refine De ?_|refine Ap (by kernel_rfl) ?_)|(refine gT ?_;first|refine B1 ?_|refine MA ?_)|refine BC ?_|refine Bg ?_|refine Cp ?_|(show VC _ (.cond _ _ _) _ _;first|refine Ai rfl ?_|refine Ah rfl ?_|refine At rfl (by assumption) ?_)|refine IZ ?_|refine EE ?_)
      refine Ao (Am (l:=[]) (b:=[(9100,.pin 100 (r 100)),(9101,.pin 101 (r 101)),(100,.box [.d (.int .i64 slot),.d (.int .i64 turns),.d nv,.d (lds loads),.d (sis sil),.row 102 arr.length]),(101,.box (Wk.cs ⟨EY slot w.nd w.up.data,w.node,w.ac,w.bc,w.rs,w.up⟩)),(102,.row 62 3 (rowOf Ar.enc arr))]) (fun n=>n) ?_ ?_ rfl (by(simp only[wfL,wfs,Ae,Ad];rfl))) (DG Ab .nil rfl (by repeat'(first|exact tt0|refine⟨rfl,?_⟩)))
      all_goals repeat'(first|exact tt0|refine⟨⟨_,rfl,?_⟩,?_⟩|exact .Bs rfl rfl|exact .pin rfl|exact .Bc rfl Ag|refine .box ?_|exact .nil|refine .cons ?_ ?_|exact .d|exact .row rfl rfl|fail)
    ·have d4:decide ((w.up.data.size:Int)≠3)=true:=Agj (by omega);rw[hno (by unfold Li;rw[Agk h4];simp)]
     repeat'(first|refine sB ?_|refine Ak rfl (by exact tt0) ?_|(refine gN ?_;first|refine Aj (gk rfl) rfl rfl ?_)|refine Az rfl (by assumption) ?_|refine Ap (by kernel_rfl) ?_|(refine gD ?_;first|refine Ai rfl ?_|refine At rfl (by assumption) ?_)|fail)
     refine Ao (Am (l:=[]) (b:=[(9100,.pin 100 (r 100)),(9101,.pin 101 (r 101)),(100,.box [.d (.int .i64 slot),.d (.int .i64 turns),.d nv,.d (lds loads),.d (sis sil),.row 102 arr.length]),(101,.box (Wk.cs w)),(102,.row 62 3 (rowOf Ar.enc arr))]) (fun n=>n) ?_ ?_ rfl (by(simp only[wfL,wfs,Ae,Ad];rfl))) (DG Ab .nil rfl (by repeat'(first|exact tt0|refine⟨rfl,?_⟩)))
     all_goals repeat'(first|exact tt0|refine⟨⟨_,rfl,?_⟩,?_⟩|exact .Bs rfl rfl|exact .pin rfl|exact .Bc rfl Ag|refine .box ?_|exact .nil|refine .cons ?_ ?_|exact .d|exact .row rfl rfl|fail)
   ·have d3:decide (w.up.target≠w.node)=true:=Agj h3;rw[hno (by unfold Li;rw[Agk h3];simp)]
    repeat'(first|refine sB ?_|refine Ak rfl (by exact tt0) ?_|(refine gN ?_;first|refine Aj (gk rfl) rfl rfl ?_)|refine Az rfl (by assumption) ?_|refine Ap (by kernel_rfl) ?_|(refine gD ?_;first|refine Ai rfl ?_)|fail)
    refine Ao (Am (l:=[]) (b:=[(9100,.pin 100 (r 100)),(9101,.pin 101 (r 101)),(100,.box [.d (.int .i64 slot),.d (.int .i64 turns),.d nv,.d (lds loads),.d (sis sil),.row 102 arr.length]),(101,.box (Wk.cs w)),(102,.row 62 3 (rowOf Ar.enc arr))]) (fun n=>n) ?_ ?_ rfl (by(simp only[wfL,wfs,Ae,Ad];rfl))) (DG Ab .nil rfl (by repeat'(first|exact tt0|refine⟨rfl,?_⟩)))
    all_goals repeat'(first|exact tt0|refine⟨⟨_,rfl,?_⟩,?_⟩|exact .Bs rfl rfl|exact .pin rfl|exact .Bc rfl Ag|refine .box ?_|exact .nil|refine .cons ?_ ?_|exact .d|exact .row rfl rfl|fail)
  ·have d2:decide (w.up.BF≠4)=true:=Agj h2;rw[hno (by unfold Li;rw[Agk h2];simp)]
   repeat'(first|refine sB ?_|refine Ak rfl (by exact tt0) ?_|(refine gN ?_;first|refine Aj (gk rfl) rfl rfl ?_)|refine Az rfl (by assumption) ?_|refine Ap (by kernel_rfl) ?_|(refine gD ?_;first|refine Ai rfl ?_)|fail)
   refine Ao (Am (l:=[]) (b:=[(9100,.pin 100 (r 100)),(9101,.pin 101 (r 101)),(100,.box [.d (.int .i64 slot),.d (.int .i64 turns),.d nv,.d (lds loads),.d (sis sil),.row 102 arr.length]),(101,.box (Wk.cs w)),(102,.row 62 3 (rowOf Ar.enc arr))]) (fun n=>n) ?_ ?_ rfl (by(simp only[wfL,wfs,Ae,Ad];rfl))) (DG Ab .nil rfl (by repeat'(first|exact tt0|refine⟨rfl,?_⟩)))
   all_goals repeat'(first|exact tt0|refine⟨⟨_,rfl,?_⟩,?_⟩|exact .Bs rfl rfl|exact .pin rfl|exact .Bc rfl Ag|refine .box ?_|exact .nil|refine .cons ?_ ?_|exact .d|exact .row rfl rfl|fail)
end Go.Proofs.M
end
section
namespace Go.Proofs.M
open Go Go.Sx Go.RowKit Go.Proofs Go.Proofs.T Go.Proofs.Q
set_option maxRecDepth 4000
attribute [local irreducible] VR VC thenQ blockQ retL VX
theorem DQ {slot turns:Int} {R:Nat->RI} {n:Nat} {loads:List Ld} {sil:List Si} {arr:List Ar} {r0 r2:RI} {Y:List (List C)}:∀p∈fxL slot turns R n loads sil arr r0 r2,∀m∈p.2.names,(As (DL (fxL slot turns R n loads sil arr r0 r2) R Y) m).isSome=true:=by
 intro p hp;simp only[fxL,AgD,Agq,or_false] at hp;rcases hp with rfl|rfl|rfl|rfl<;>intro n hn
 ·simp only[Blk.names,List.flatMap_cons,List.flatMap_nil,C.names,List.nil_append,AgF,AgD,Agq,or_false] at hn;subst hn;rfl
 ·rw[AY] at hn;cases hn
 ·simp only[Blk.names,AgD,Agq,or_false] at hn;subst hn;rfl
 ·simp only[Blk.names,AgD,Agq,or_false] at hn;subst hn;rfl
theorem Abp {slot turns:Int} {R:Nat->RI} {loads:List Ld} {sil:List Si} {arr:List Ar} {r0 r2:RI} {X:List Wk} {i:Nat} (hX:X.length<=64) (hi:i<X.length):AH [.c (.ptr 100 0),.c (.ptr (8000+i) 0)] (DL (fxL slot turns R X.length loads sil arr r0 r2) R (X.map Wk.cs))=true:=by
 simp only[AH,Agt,AgA];refine⟨fun x hx=>?_,LG FT (by rw[Agz];omega) DQ (F8 X)⟩;simp only[AgD,Agq,or_false] at hx;rcases hx with rfl|rfl<;>refine⟨rfl,fun n hn=>?_⟩<;>simp only[AV.names,AV.Ch,C.names,AgD,Agq,or_false] at hn<;>subst hn
 ·rfl
 ·exact LK FT hX hi
theorem Abq {P:Program} {N:Nat} {E:Env P N} {x y:AV} {m:List (Nat×Blk)}:DU [x,y] m=AS [(0,x),(1,y)] m:=by
 funext k
 cases k with
 |b n=>rfl
 |s t=>
  rcases t with _|_|t
  ·rfl
  ·rfl
  ·show(([x,y]:List AV)[t+2]?).map Sx.Item.v=(As [(0,x),(1,y)] (t+2)).map Sx.Item.v;have:As [(0,x),(1,y)] (t+2)=none:=GK fun p hp=>by
    simp only[AgD,Agq,or_false] at hp;rcases hp with rfl|rfl<;>simp
   rw[this];simp
theorem AcA {sil:List Si} {slot:Int} {X:List Wk} {i j:Nat} (h:j∈Bv sil slot X i):j<X.length/\j≠i:=by
 unfold Bv at h;obtain⟨h1,h2⟩:=AgR.1 h;simp only[Agt,Agl] at h2;exact⟨AgQ.1 h1,h2.1.1.1⟩
theorem Gp {σ:St} {slot turns:Int} {R:Nat->RI} {n:Nat} {loads:List Ld} {sil:List Si} {arr:List Ar} {r0 r2:RI}
  (h0:σ (.b 100)=some (.k (.box (sbC slot turns R n loads sil arr.length)))) (h1:σ (.b 102)=some (.k (.row 62 3 (rowOf Ar.enc arr)))) (h2:σ (.b 9100)=some (.k (.pin 100 r0))) (h3:σ (.b 9102)=some (.k (.pin 102 r2))):
  H5 σ (fun n=>n) [] (fxL slot turns R n loads sil arr r0 r2):=⟨⟨_,h0,.box (CWs.Ep _)⟩,⟨_,h1,.row (WV.Ep _)⟩,⟨_,h2,.pin rfl⟩,⟨_,h3,.pin rfl⟩,trivial⟩
theorem Aad {FX:List (Nat×Blk)} {R:Nat->RI} {X:List Wk} {i:Nat} (hf:ET FX) (hX:X.length<=64) (hi:i<X.length) (h0:(As (DL FX R (X.map Wk.cs)) 100).isSome=true):∀p∈[(0,AV.c (.ptr 100 0)),(1,AV.c (.ptr (8000+i) 0))],p.2.shallow=true/\∀n∈p.2.names,(As (DL FX R (X.map Wk.cs)) n).isSome=true:=by
 intro p hp;simp only[AgD,Agq,or_false] at hp;rcases hp with rfl|rfl<;>refine⟨rfl,fun n hn=>?_⟩<;>simp only[AV.names,AV.Ch,C.names,AgD,Agq,or_false] at hn<;>subst hn
 ·exact h0
 ·exact LK hf hX hi
theorem Re {FX:List (Nat×Blk)} {R:Nat->RI} {X:List Wk} {i j:Nat} (hf:ET FX) (hX:X.length<=64) (hi:i<X.length) (hj:j<X.length) (h0:(As (DL FX R (X.map Wk.cs)) 100).isSome=true):∀p∈[(0,AV.c (.ptr 100 0)),(1,AV.c (.ptr (8000+i) 0)),(5,AV.c (.ptr (8000+j) 0))],p.2.shallow=true/\∀n∈p.2.names,(As (DL FX R (X.map Wk.cs)) n).isSome=true:=by
 intro p hp;simp only[AgD,Agq,or_false] at hp;rcases hp with rfl|rfl|rfl<;>refine⟨rfl,fun n hn=>?_⟩<;>simp only[AV.names,AV.Ch,C.names,AgD,Agq,or_false] at hn<;>subst hn
 ·exact h0
 ·exact LK hf hX hi
 ·exact LK hf hX hj
theorem J8 {P:Program} {l:List (Nat×AV)} {slot turns:Int} {R:Nat->RI} {n:Nat} {loads:List Ld} {sil:List Si} {arr:List Ar} {r0 r2:RI} {X:List Wk} {e:Exit} (he:e=.normal\/e=.ret) (hX:X.length<=64):Hr P [] (.tup []) (DL (fxL slot turns R n loads sil arr r0 r2) R (X.map Wk.cs)) e (lsS l (fxL slot turns R n loads sil arr r0 r2) R X):=by
 refine⟨he,[],.nil,rfl,fun p hp=>?_⟩;rcases RL hp with hp|⟨i,hi,rfl⟩|⟨j,hj,rfl⟩
 ·simp only[fxL,AgD,Agq,or_false] at hp;rcases hp with rfl|rfl|rfl|rfl<;>rfl
 ·exact Ok FT (by rw[Agz];omega) hi
 ·exact LH FT (by rw[Agz];omega) hj
def Acy (w:Wk) (r:Rs):Wk:=⟨w.nd,w.node,w.ac,w.bc,r,w.up⟩
theorem Um {σ:St} {n:Nat} {x:Option Sx.Item}:σ.upd (.b n) x (.b n)=x:=St.AA _ _ _
theorem Rh {X:List Wk} {i:Nat} {A:Wk} (hi:i<X.length):(X.set i A).getD i default=A:=by
 simp[Agi,hi]
theorem HM {X:List Wk} {i k:Nat} {A:Wk} (h:i≠k):(X.set i A).getD k default=X.getD k default:=by
 simp[Agi,AgG h]
theorem OQ {FX:List (Nat×Blk)} {b:Blk} (hf:ET FX):ET ((15,b) :: FX):=by
 intro p hp;rcases AgD.1 hp with rfl|hp
 ·simp
 ·exact hf p hp
set_option maxHeartbeats 4000000 in
theorem Qe {slot turns:Int} {R:Nat->RI} {loads:List Ld} {sil:List Si} {arr:List Ar} {r0 r2:RI} {X:List Wk} {i:Nat} (hX:X.length<=64) (hi:i<X.length):
  FnS Tryz.prog 90 [.c (.ptr 100 0),.c (.ptr (8000+i) 0)] (DL (fxL slot turns R X.length loads sil arr r0 r2) R (X.map Wk.cs)) (.tup []) (DL (fxL slot turns R X.length loads sil arr r0 r2) R ((Ci sil slot X i).map Wk.cs)):=by
 have hf:ET (fxL slot turns R X.length loads sil arr r0 r2):=FT;refine FnS.Bw (enters_of Tryz.func90 (by kernel_rfl) rfl) Tryz.func90 rfl Tryz.ntmps90 Tryz.results90 rfl (Abp hX hi) rfl fun E=>?_
 refine AJ ?_;rw[Abq (E:=E)];show VC E _ _ (lsS _ (fxL slot turns R X.length loads sil arr r0 r2) R X)
 repeat'(first|refine sR ?_|(refine gL ?_;first|refine Gb (gk rfl) rfl (Kn (l:=[]) hf hX hi) rfl rfl rfl ?_)|refine Ak rfl (by exact tt0) ?_|(refine gN ?_;first|refine Aj (gk rfl) rfl rfl ?_)|refine sq 1 rfl ?_|(refine gD ?_;first|(refine Ay rfl ?_ ?_<;>intro h<;>have hq:=h<;>(try simp only[hqs] at hq)))|fail)
 ·rw[show Ci sil slot X i=X from AgZ hq];refine Ao (σ':=lsS [] (fxL slot turns R X.length loads sil arr r0 r2) R X) ?_ (J8 Ab hX);exact F1 hf hX trivial (Gp rfl rfl rfl rfl) (fun j hj=>Kn (l:=[]) hf hX hj) (fun j hj=>LI (l:=[]) hf hX hj) (fun p hp=>by cases hp) DQ
 refine VC.le (σ':=lsS [(0,.c (.ptr 100 0)),(1,.c (.ptr (8000+i) 0))] (fxL slot turns R X.length loads sil arr r0 r2) R X) ?_ ?_
 ·exact F1 hf hX ⟨⟨_,rfl,.c (.ptr rfl)⟩,⟨_,rfl,.c (.ptr rfl)⟩,trivial⟩ (Gp rfl rfl rfl rfl) (fun j hj=>Kn (l:=[]) hf hX hj) (fun j hj=>LI (l:=[]) hf hX hj) (Aad hf hX hi rfl) DQ
 refine BC (MM hX hi ?_);have hse:Ci sil slot X i=match Bv sil slot X i with|[j]=>DM sil slot X i j|_=>X:=AgY (fun h=>h hq)
 have hl1:∀{l},(WN R l).length=l.length:=fun{l}=>by simp[WN]
 repeat'(first|refine sR ?_|refine Ak rfl (by exact tt0) ?_|(refine gE ?_;first|refine BB (gk rfl) rfl rfl (by exact Al.symm) rfl rfl ?_)|refine sq 3 rfl ?_|(refine gD ?_;first|(refine Ay rfl ?_ ?_<;>intro h<;>have hq:=h<;>(try simp only[hqs] at hq)))|fail)
 ·have h1:Ci sil slot X i=X:=by
   rw[hse]
   split
   ·rename_i j hj;exact absurd (by rw[hl1,hj];rfl) hq
   ·rfl
  rw[h1];refine Ao (σ':=lsS [] (fxL slot turns R X.length loads sil arr r0 r2) R X) ?_ (J8 Ab hX);exact F1 hf hX trivial (Gp rfl rfl rfl rfl) (fun j hj=>Kn (l:=[]) (FX:=(15,.row 136 1 (rowOf LX (WN R (Bv sil slot X i)))) :: (fxL slot turns R X.length loads sil arr r0 r2)) (OQ hf) hX hj) (fun j hj=>LI (l:=[]) (FX:=(15,.row 136 1 (rowOf LX (WN R (Bv sil slot X i)))) :: (fxL slot turns R X.length loads sil arr r0 r2)) (OQ hf) hX hj) (fun p hp=>by cases hp) DQ
 rw[hl1] at hq;obtain⟨j,hj⟩:=List.length_eq_one_iff.1 (show(Bv sil slot X i).length=1 by omega);have h1:Ci sil slot X i=DM sil slot X i j:=by rw[hse,hj]
 obtain⟨hjl,hji⟩:=AcA (show j∈Bv sil slot X i by rw[hj];simp);rw[h1];clear h1 hse hl1 hq h;rw[hj,show WN R [j]=[(R j).blk] from rfl]
 repeat'(first|refine sR ?_|refine Ak rfl (by exact tt0) ?_|refine sq 4 rfl ?_|fail)
 refine Ec (m:=0) (gk rfl) rfl rfl rfl rfl rfl rfl (by simp) (by simp[rowOf]) rfl ?_
 repeat'(first|refine sA ?_|refine Ak rfl (by exact tt0) ?_|fail)
 refine VC.le (Oy (s:=5) (nm:=8000+j) (pn:=20000+j) (r:=R j) (off:=0) rfl (LI (l:=[]) (FX:=(15,.row 136 1 (rowOf LX [(R j).blk])) :: (fxL slot turns R X.length loads sil arr r0 r2)) (OQ hf) hX hjl)) ?_;refine VC.le (σ':=lsS [(0,.c (.ptr 100 0)),(1,.c (.ptr (8000+i) 0)),(5,.c (.ptr (8000+j) 0))] (fxL slot turns R X.length loads sil arr r0 r2) R X) ?_ ?_
 ·exact F1 hf hX ⟨⟨_,rfl,.c (.ptr rfl)⟩,⟨_,rfl,.c (.ptr rfl)⟩,⟨_,rfl,.c (.ptr rfl)⟩,trivial⟩ (Gp rfl rfl rfl rfl) (fun k hk=>Kn (l:=[]) (FX:=(15,.row 136 1 (rowOf LX [(R j).blk])) :: (fxL slot turns R X.length loads sil arr r0 r2)) (OQ hf) hX hk) (fun k hk=>LI (l:=[]) (FX:=(15,.row 136 1 (rowOf LX [(R j).blk])) :: (fxL slot turns R X.length loads sil arr r0 r2)) (OQ hf) hX hk) (Re hf hX hi hjl rfl) DQ
 obtain⟨A,hAe⟩:∃A:Wk,A=Acy (X.getD i default) (YX (T5 (X.getD j default).ac)):=⟨_,rfl⟩;have hX1:(X.set i A).length<=64:=by rw[Agy];exact hX
 repeat'(first|refine sR ?_|(refine gL ?_;first|refine Hj (gk rfl) rfl (Kn (l:=[]) hf hX hjl) rfl rfl rfl ?_)|(refine gS ?_;first|refine Ma (gk rfl) rfl rfl (Kn (l:=[]) hf hX hi) rfl rfl rfl ?_)|refine Ak rfl (by exact tt0) ?_|(refine gN ?_;first|refine Aj (gk rfl) rfl rfl ?_)|refine sq 5 rfl ?_|fail)
 refine VC.le (σ':=lsS [(0,.c (.ptr 100 0)),(1,.c (.ptr (8000+i) 0)),(5,.c (.ptr (8000+j) 0))] (fxL slot turns R X.length loads sil arr r0 r2) R (X.set i A)) ?_ ?_
 ·refine F1 hf hX1 ⟨⟨_,rfl,.c (.ptr rfl)⟩,⟨_,rfl,.c (.ptr rfl)⟩,⟨_,rfl,.c (.ptr rfl)⟩,trivial⟩ (Gp (Eo (by omega)) (Eo (by omega)) (Eo (by omega)) (Eo (by omega))) (fun k hk=>?_) (fun k hk=>?_) (Re hf hX1 (by rw[Agy];exact hi) (by rw[Agy];exact hjl) rfl) DQ
  ·rw[Agy] at hk;by_cases e:i=k
   ·subst e;rw[Um,Rh hi,hAe];rfl
   ·rw[Eo (by omega),HM e];exact Kn (l:=[]) hf hX hk
  ·rw[Agy] at hk;rw[Eo (by omega)];exact LI (l:=[]) hf hX hk
 have hxi:lsS [] (fxL slot turns R X.length loads sil arr r0 r2) R (X.set i A) (.b (8000+i))=some (.k (.box A.cs)):=by
  have:=Kn (l:=[]) hf (R:=R) hX1 (j:=i) (by rw[Agy];exact hi)
  rwa [Rh hi] at this
 have hxj:lsS [] (fxL slot turns R X.length loads sil arr r0 r2) R (X.set i A) (.b (8000+j))=some (.k (.box (X.getD j default).cs)):=by
  have:=Kn (l:=[]) hf (R:=R) hX1 (j:=j) (by rw[Agy];exact hjl)
  rwa [HM (Ne.symm hji)] at this
 have hAn:A.node=(X.getD i default).node:=by rw[hAe];rfl
 have hhe:=IQ sil A.node (X.getD j default).node slot;have hno:¬(A.node=(X.getD j default).ac.target/\Ha sil A.node (X.getD j default).node slot=true)->DM sil slot X i j=X.set i A:=by
  intro hn;unfold DM;rw[AgY (fun hc=>hn (by rw[hAn];exact⟨hc.1.symm,hc.2⟩)),hAe];rfl
 have hend:Le E (lsS [] (fxL slot turns R X.length loads sil arr r0 r2) R (X.set i A)) (lsS [] (fxL slot turns R X.length loads sil arr r0 r2) R (X.set i A)):=fun _ _ h=>h
 by_cases t1:(X.getD j default).ac.target=A.node
 ·have g1:decide ((X.getD j default).ac.target=A.node)=true:=Agj t1;cases t2:Ha sil A.node (X.getD j default).node slot with
  |true=>
   obtain⟨B,hBe⟩:∃B:Wk,B=Acy (X.getD j default) {(X.getD j default).rs with AT:=true}:=⟨_,rfl⟩;have h1:DM sil slot X i j=(X.set i A).set j B:=by
    unfold DM;rw[AgZ ⟨t1.trans hAn,by rw[<-hAn];exact t2⟩,hAe,hBe];rfl
   have hX2:((X.set i A).set j B).length<=64:=by rw[Agy];exact hX1
   rw[h1]
   repeat'(first|refine sB ?_|(refine gL ?_;first|refine Gb (gk rfl) rfl (hxi) rfl rfl rfl ?_)|(refine gL ?_;first|refine Gb (gk rfl) rfl (hxj) rfl rfl rfl ?_)|(refine gS ?_;first|refine Ma (gk rfl) rfl rfl (hxj) rfl rfl rfl ?_)|refine Ak rfl (by exact tt0) ?_|(refine gC ?_;first|refine Aa (hhe) (gk rfl) rfl rfl rfl (by rfl) rfl (by rfl) rfl ?_)|(refine gN ?_;first|refine Aj (gk rfl) rfl rfl ?_)|refine Az rfl (by assumption) ?_|refine Ap (by kernel_rfl) ?_|(refine gD ?_;first|refine Ai rfl ?_|refine At rfl (by assumption) ?_)|fail)
   refine Ao (σ':=lsS [] (fxL slot turns R X.length loads sil arr r0 r2) R ((X.set i A).set j B)) ?_ (J8 BQ hX2);refine F1 hf hX2 trivial (Gp (Eo (by omega)) (Eo (by omega)) (Eo (by omega)) (Eo (by omega))) (fun k hk=>?_) (fun k hk=>?_) (fun p hp=>by cases hp) DQ
   ·rw[Agy] at hk;by_cases e:j=k
    ·subst e;rw[Um,Rh hk,hBe];rfl
    ·rw[Eo (by omega),HM e];exact Kn (l:=[]) hf hX1 hk
   ·rw[Agy] at hk;rw[Eo (by omega)];exact LI (l:=[]) hf hX1 hk
  |false=>
   rw[hno (fun hc=>by rw[t2] at hc;exact absurd hc.2 (by decide))]
   repeat'(first|refine sB ?_|(refine gL ?_;first|refine Gb (gk rfl) rfl (hxi) rfl rfl rfl ?_)|(refine gL ?_;first|refine Gb (gk rfl) rfl (hxj) rfl rfl rfl ?_)|refine Ak rfl (by exact tt0) ?_|(refine gC ?_;first|refine Aa (hhe) (gk rfl) rfl rfl rfl (by rfl) rfl (by rfl) rfl ?_)|(refine gN ?_;first|refine Aj (gk rfl) rfl rfl ?_)|refine Az rfl (by assumption) ?_|refine Ap (by kernel_rfl) ?_|(refine gD ?_;first|refine Ah rfl ?_|refine At rfl (by assumption) ?_)|fail)
   refine Ao (σ':=lsS [] (fxL slot turns R X.length loads sil arr r0 r2) R (X.set i A)) ?_ (J8 BQ hX1);exact F1 hf hX1 trivial (Gp rfl rfl rfl rfl) (fun k hk=>Kn (l:=[]) hf hX1 hk) (fun k hk=>LI (l:=[]) hf hX1 hk) (fun p hp=>by cases hp) DQ
 ·have g1:decide ((X.getD j default).ac.target=A.node)=false:=Agk t1;rw[hno (fun hc=>t1 hc.1.symm)]
  repeat'(first|refine sB ?_|(refine gL ?_;first|refine Gb (gk rfl) rfl (hxi) rfl rfl rfl ?_)|(refine gL ?_;first|refine Gb (gk rfl) rfl (hxj) rfl rfl rfl ?_)|refine Ak rfl (by exact tt0) ?_|(refine gN ?_;first|refine Aj (gk rfl) rfl rfl ?_)|refine Az rfl (by assumption) ?_|refine Ap (by kernel_rfl) ?_|(refine gD ?_;first|refine Ah rfl ?_)|fail)
  refine Ao (σ':=lsS [] (fxL slot turns R X.length loads sil arr r0 r2) R (X.set i A)) ?_ (J8 BQ hX1);exact F1 hf hX1 trivial (Gp rfl rfl rfl rfl) (fun k hk=>Kn (l:=[]) hf hX1 hk) (fun k hk=>LI (l:=[]) hf hX1 hk) (fun p hp=>by cases hp) DQ
end Go.Proofs.M
end
section
namespace Go.Proofs.M
open Go Go.Sx Go.RowKit Go.Proofs Go.Proofs.T Go.Proofs.Q
set_option maxRecDepth 4000
attribute [local irreducible] VR VC thenQ blockQ retL VX
def fxS (slot turns:Int) (R:Nat->RI) (n:Nat) (loads:List Ld) (sil:List Si) (arr:List Ar) (r0:RI):List (Nat×Blk):=
 [(100,.box (sbC slot turns R n loads sil arr.length)),(102,.row 62 3 (rowOf Ar.enc arr)),(9100,.pin 100 r0)]
structure Pz (l:List (Nat×AV)) (FY:List (Nat×Blk)):Prop where
 free:∀p∈FY,p.1<90\/(200<=p.1/\p.1<8000)
 nb:∀p∈FY,p.2.names=[]
 ns:∀p∈l,p.2.shallow=true/\∀n∈p.2.names,n=100\/n∈FY.map (·.1)
section
variable {slot turns:Int} {R:Nat->RI} {nn:Nat} {loads:List Ld} {sil:List Si} {arr:List Ar} {r0:RI} {l:List (Nat×AV)} {FY:List (Nat×Blk)} {X:List Wk}
theorem VM {p:Nat×Blk} (hp:p∈fxS slot turns R nn loads sil arr r0++FY):p=(100,.box (sbC slot turns R nn loads sil arr.length))\/p=(102,.row 62 3 (rowOf Ar.enc arr))\/p=(9100,.pin 100 r0)\/p∈FY:=by
 rcases List.mem_append.1 hp with hp|hp
 ·simp only[fxS,AgD,Agq,or_false] at hp;rcases hp with rfl|rfl|rfl<;>simp
 ·exact .inr (.inr (.inr hp))
theorem H6 (h:Pz l FY):ET (fxS slot turns R nn loads sil arr r0++FY):=by
 intro p hp;rcases VM hp with rfl|rfl|rfl|hp
 ·simp
 ·simp
 ·simp
 ·have:=h.free p hp;omega
theorem E8 (h:Pz l FY) {n:Nat} {b:Blk} (hb:As (fxS slot turns R nn loads sil arr r0++FY) n=some b):(n=100/\b=.box (sbC slot turns R nn loads sil arr.length))\/(n=102/\b=.row 62 3 (rowOf Ar.enc arr))\/(n=9100/\b=.pin 100 r0)\/(As FY n=some b/\(n<90\/(200<=n/\n<8000))):=by
 rw[B3] at hb;cases h1:As (fxS slot turns R nn loads sil arr r0) n with
 |some x=>
  rw[h1] at hb;injection hb with hb;subst hb
  have:=AE h1;simp only[fxS,AgD,Agq,or_false,Prod.mk.injEq] at this;rcases this with⟨rfl,rfl⟩|⟨rfl,rfl⟩|⟨rfl,rfl⟩
  ·exact .inl ⟨rfl,rfl⟩
  ·exact .inr (.inl ⟨rfl,rfl⟩)
  ·exact .inr (.inr (.inl ⟨rfl,rfl⟩))
 |none=>
  rw[h1,Option.none_or] at hb;exact .inr (.inr (.inr ⟨hb,h.free _ (AE hb)⟩))
theorem VN (h:Pz l FY) {n:Nat} {b:Blk} (hb:As FY n=some b):As (fxS slot turns R nn loads sil arr r0++FY) n=some b:=by
 have:=h.free _ (AE hb);rw[B3,GK (l:=fxS slot turns R nn loads sil arr r0) (fun p hp=>?_),hb];rfl;simp only[fxS,AgD,Agq,or_false] at hp;rcases hp with rfl|rfl|rfl<;>(show(_:Nat)≠n;simp only at this ⊢;omega)
theorem Qx (h:Pz l FY) (hX:X.length<=64):wfL l (DL (fxS slot turns R nn loads sil arr r0++FY) R (X.map Wk.cs))=true:=by
 have hX2:(X.map Wk.cs).length<=100:=by rw[Agz];omega
 refine(MH (H6 h) hX2 (fun p hp=>⟨(h.ns p hp).1,fun n hn=>?_⟩) (fun p hp n hn=>?_) (F8 X))
 ·rcases (h.ns p hp).2 n hn with rfl|hm
  ·rfl
  ·obtain⟨q,hq,rfl⟩:=AgT.1 hm;cases hl:As FY q.1 with
   |some b=>rw[BI (VN h hl)];rfl
   |none=>
    exfalso;have:∀{L:List (Nat×Blk)},q∈L->As L q.1≠none:=by
     intro L
     induction L with
     |nil=>intro h;cases h
     |cons p L ih=>
      intro hm;unfold As;cases hb:Nat.beq p.1 q.1 with
      |true=>simp
      |false=>
       rcases AgD.1 hm with rfl|hm
       ·rw[Nat.beq_refl] at hb;cases hb
       ·exact ih hm
    exact this hq hl
 ·rcases VM hp with rfl|rfl|rfl|hp
  ·simp only[Blk.names,List.flatMap_cons,List.flatMap_nil,C.names,List.nil_append,AgF,AgD,Agq,or_false] at hn;subst hn;rfl
  ·rw[AY] at hn;cases hn
  ·simp only[Blk.names,AgD,Agq,or_false] at hn;subst hn;rfl
  ·rw[h.nb p hp] at hn;cases hn
theorem OO (h:Pz l FY) (hX:X.length<=64):∀k it,lsS l (fxS slot turns R nn loads sil arr r0++FY) R X k=some it->∀nm,it.mentions nm=true->lsS l (fxS slot turns R nn loads sil arr r0++FY) R X (.b nm)≠none:=
 Hn (Qx h hX)
def WL (g:FuncId) (slot turns:Int) (R:Nat->RI) (nn:Nat) (loads:List Ld) (sil:List Si) (r0:RI) (l:List (Nat×AV)) (FY:List (Nat×Blk)) (i:Nat) (A B:List Ar×List Wk):Prop:=
 ∀{E:Env Tryz.prog 116} {a:Act} {w:World} {ρ:Nat->RI} {Im:Nat->Prop},AU E (lsS l (fxS slot turns R nn loads sil A.1 r0++FY) R A.2) a w ρ Im->
  Calls Tryz.prog g #[pvo r0.blk 0,pvo (R i).blk 0] w fun e w'=>∃v,e=.returned v/\(∃us:List Value,v=.tuple us.toArray/\us=[])/\∃ρ2 Im2,AU E (lsS l (fxS slot turns R nn loads sil B.1 r0++FY) R B.2) a w' ρ2 Im2
end
end Go.Proofs.M
end
section
namespace Go.Proofs.M
open Go Go.Sx Go.RowKit Go.Proofs Go.Proofs.T Go.Proofs.Q
set_option maxRecDepth 4000
attribute [local irreducible] VR VC thenQ blockQ retL VX
theorem Lc (sil:List Si) (slot:Int) (X:List Wk) (i:Nat):(Ci sil slot X i).length=X.length:=by
 unfold Ci
 split
 ·rfl
 ·split
  ·unfold DM;split<;>simp
  ·rfl
section
variable {slot turns:Int} {R:Nat->RI} {loads:List Ld} {sil:List Si} {arr:List Ar} {r0 r2:RI} {l:List (Nat×AV)} {FY:List (Nat×Blk)} {X:List Wk} {i:Nat}
theorem JJ {nn:Nat} {n:Nat} {b:Blk} (hb:As (fxL slot turns R nn loads sil arr r0 r2) n=some b):(n=100/\b=.box (sbC slot turns R nn loads sil arr.length))\/(n=102/\b=.row 62 3 (rowOf Ar.enc arr))\/(n=9100/\b=.pin 100 r0)\/(n=9102/\b=.pin 102 r2):=by
 have:=AE hb;simp only[fxL,AgD,Agq,or_false,Prod.mk.injEq] at this;rcases this with⟨rfl,rfl⟩|⟨rfl,rfl⟩|⟨rfl,rfl⟩|⟨rfl,rfl⟩<;>simp
theorem HX {l:List (Nat×AV)} {FX:List (Nat×Blk)} {n:Nat} {b:Blk} (h:As (DL FX R (X.map Wk.cs)) n=some b):lsS l FX R X (.b n)=some (.k b):=by
 show(As _ n).map Sx.Item.k=_;rw[h];rfl
theorem MK {l:List (Nat×AV)} {FX:List (Nat×Blk)} {n:Nat} {it:Sx.Item} (h:lsS l FX R X (.b n)=some it):∃b,As (DL FX R (X.map Wk.cs)) n=some b/\it=.k b:=by
 have h:(As (DL FX R (X.map Wk.cs)) n).map Sx.Item.k=some it:=h;rw[Ag4] at h;obtain⟨y,h1,h2⟩:=h;exact⟨y,h1,h2.symm⟩
theorem CO {σ:St} {bout:List (Nat×Blk)} {n:Nat} {b:Blk} (h:As bout n=some b):Td σ bout (.b n)=some (.k b):=by
 unfold Td;simp only[h]
theorem GH {σ:St} {bout:List (Nat×Blk)} {n:Nat} (h:As bout n=none):Td σ bout (.b n)=σ (.b n):=by
 unfold Td;simp only[h]
set_option maxHeartbeats 1000000 in
theorem Pb (hO:Pz l FY) (hX:X.length<=64) (hi:i<X.length):WL 90 slot turns R X.length loads sil r0 l FY i (arr,X) (arr,Ci sil slot X i):=by
 intro E a w ρ Im hs;have hf:ET (fxS slot turns R X.length loads sil arr r0++FY):=H6 hO;have hfl:ET (fxL slot turns R X.length loads sil arr r0 (ρ 102)):=FT;have hXl:(X.map Wk.cs).length<=100:=by rw[Agz];omega
 have hlen:=Lc sil slot X i;have hYl:((Ci sil slot X i).map Wk.cs).length<=100:=by rw[Agz];omega
 have e100:lsS l (fxS slot turns R X.length loads sil arr r0++FY) R X (.b 100)=some (.k (.box (sbC slot turns R X.length loads sil arr.length))):=HX (BI rfl);have e102:lsS l (fxS slot turns R X.length loads sil arr r0++FY) R X (.b 102)=some (.k (.row 62 3 (rowOf Ar.enc arr))):=HX (BI rfl);have e9100:lsS l (fxS slot turns R X.length loads sil arr r0++FY) R X (.b 9100)=some (.k (.pin 100 r0)):=HX (BI rfl);have efam:∀j,j<X.length->lsS l (fxS slot turns R X.length loads sil arr r0++FY) R X (.b (8000+j))=some (.k (.box (X.getD j default).cs)):=fun j hj=>Kn hf hX hj
 have epin:∀j,j<X.length->lsS l (fxS slot turns R X.length loads sil arr r0++FY) R X (.b (20000+j))=some (.k (.pin (8000+j) (R j))):=fun j hj=>LI hf hX hj
 have e9102:lsS l (fxS slot turns R X.length loads sil arr r0++FY) R X (.b 9102)=none:=by
  cases h:As (DL (fxS slot turns R X.length loads sil arr r0++FY) R (X.map Wk.cs)) 9102 with
  |none=>show(As _ 9102).map Sx.Item.k=_;rw[h];rfl
  |some b=>
   exfalso;rcases BE h with h1|⟨j,hj,e,_⟩|⟨j,hj,e,_⟩
   ·rcases E8 hO h1 with⟨e,_⟩|⟨e,_⟩|⟨e,_⟩|⟨_,e⟩<;>omega
   ·omega
   ·omega
 have hs1:=hs.AdO (nm:=102) (pn:=9102) (by rw[e102];simp) e9102;have hr0:ρ 100=r0:=hs.bk 9100 _ e9100;have hRi:ρ (8000+i)=R i:=hs.bk (20000+i) _ (epin i hi);have hold:∀n it,n≠9102->lsS l (fxS slot turns R X.length loads sil arr r0++FY) R X (.b n)=some it->((lsS l (fxS slot turns R X.length loads sil arr r0++FY) R X).upd (.b 9102) (some (.k (.pin 102 (ρ 102))))) (.b n)=some it:=fun n it hn h=>by
  rw[Eo (Ne.symm hn)];exact h
 have hc:=hs1.AdB (Qe (slot:=slot) (turns:=turns) (R:=R) (loads:=loads) (sil:=sil) (arr:=arr) (r0:=r0) (r2:=ρ 102) hX hi) (vs:=[pvo r0.blk 0,pvo (R i).blk 0])
  (fun n b hb=>by
    rcases BE hb with h1|⟨j,hj,rfl,rfl⟩|⟨j,hj,rfl,rfl⟩
    ·rcases JJ h1 with⟨rfl,rfl⟩|⟨rfl,rfl⟩|⟨rfl,rfl⟩|⟨rfl,rfl⟩
     ·exact hold _ _ (by omega) e100
     ·exact hold _ _ (by omega) e102
     ·exact hold _ _ (by omega) e9100
     ·exact Um
    ·rw[Agz] at hj;rw[HG hj];exact hold _ _ (by omega) (efam j hj)
    ·rw[Agz] at hj;exact hold _ _ (by omega) (epin j hj))
  (.cons (by show pvo r0.blk 0=pvo (ρ 100).blk 0;rw[hr0]) (.cons (by show pvo (R i).blk 0=pvo (ρ (8000+i)).blk 0;rw[hRi]) .nil))
  (fun _=>false) (fun n h=>by cases h) (fun n h=>by cases h)
  (fun n b hb hl _=>by
    rcases BE hb with h1|⟨j,hj,rfl,rfl⟩|⟨j,hj,rfl,rfl⟩
    ·rcases JJ h1 with⟨rfl,rfl⟩|⟨rfl,rfl⟩|⟨rfl,rfl⟩|⟨rfl,rfl⟩
     ·exact⟨9100,r0,BI rfl,BI rfl⟩
     ·exact⟨9102,ρ 102,BI rfl,BI rfl⟩
     ·cases hl
     ·cases hl
    ·rw[Agz] at hj;exact⟨20000+j,R j,GI hfl hXl (by rw[Agz];exact hj),GI hfl hYl (by rw[Agz,hlen];exact hj)⟩
    ·cases hl)
  (fun n b hb=>by
    rcases BE hb with h1|⟨j,hj,rfl,rfl⟩|⟨j,hj,rfl,rfl⟩
    ·exact⟨_,BI h1⟩
    ·rw[Agz] at hj;exact⟨_,FN hfl hYl (by rw[Agz,hlen];exact hj)⟩
    ·rw[Agz] at hj;exact⟨_,GI hfl hYl (by rw[Agz,hlen];exact hj)⟩)
  (fun n b hb=>by
    rcases BE hb with h1|⟨j,hj,rfl,rfl⟩|⟨j,hj,rfl,rfl⟩
    ·refine⟨b,BI h1,fun h=>h,fun m hm=>?_⟩;have hm:=Blk.A3 hm;rcases JJ h1 with⟨rfl,rfl⟩|⟨rfl,rfl⟩|⟨rfl,rfl⟩|⟨rfl,rfl⟩
     ·simp only[Blk.names,List.flatMap_cons,List.flatMap_nil,C.names,List.nil_append,AgF,AgD,Agq,or_false] at hm;subst hm;exact⟨_,BI rfl,rfl⟩
     ·rw[AY] at hm;cases hm
     ·simp only[Blk.names,AgD,Agq,or_false] at hm;subst hm;exact⟨_,BI rfl,rfl⟩
     ·simp only[Blk.names,AgD,Agq,or_false] at hm;subst hm;exact⟨_,BI rfl,rfl⟩
    ·rw[Agz,hlen] at hj;refine⟨_,FN hfl hXl (by rw[Agz];exact hj),fun _=>rfl,fun m hm=>?_⟩;have hm:=Blk.A3 hm;rw[HG (by rw[hlen];exact hj)] at hm;exfalso;obtain⟨c,hc1,hc2⟩:=List.mem_flatMap.1 hm;rw[HH _ c hc1] at hc2;cases hc2
    ·rw[Agz,hlen] at hj;refine⟨_,GI hfl hXl (by rw[Agz];exact hj),fun h=>h,fun m hm=>?_⟩;have hm:m=8000+j:=by simpa [Blk.names] using Blk.A3 hm
     subst hm;exact⟨_,FN hfl hXl (by rw[Agz];exact hj),rfl⟩)
  (τ:=Td ((lsS l (fxS slot turns R X.length loads sil arr r0++FY) R X).upd (.b 9102) (some (.k (.pin 102 (ρ 102))))) (DL (fxL slot turns R X.length loads sil arr r0 (ρ 102)) R ((Ci sil slot X i).map Wk.cs))) (fun _=>rfl) (fun _=>rfl)
 refine hc.mono ?_;rintro e w' ⟨v,he,ht,ρ2,Im2,h2⟩;refine⟨v,he,ht,ρ2,Im2,h2.sub (fun k it hk=>?_) (OO hO (by rw[hlen];exact hX))⟩;cases k with
 |s t=>exact hk
 |b n=>
  obtain⟨b,hb,rfl⟩:=MK hk;rcases BE hb with h1|⟨j,hj,rfl,rfl⟩|⟨j,hj,rfl,rfl⟩
  ·rcases E8 hO h1 with⟨rfl,rfl⟩|⟨rfl,rfl⟩|⟨rfl,rfl⟩|⟨h3,h4⟩
   ·exact CO (BI rfl)
   ·exact CO (BI rfl)
   ·exact CO (BI rfl)
   ·rw[GH,Eo (by omega)]
    ·exact HX (BI (VN hO h3))
    ·cases h5:As (DL (fxL slot turns R X.length loads sil arr r0 (ρ 102)) R ((Ci sil slot X i).map Wk.cs)) n with
     |none=>rfl
     |some b2=>
      exfalso;rcases BE h5 with h6|⟨j,hj,rfl,rfl⟩|⟨j,hj,rfl,rfl⟩
      ·rcases JJ h6 with⟨rfl,_⟩|⟨rfl,_⟩|⟨rfl,_⟩|⟨rfl,_⟩<;>omega
      ·omega
      ·omega
  ·exact CO (FN hfl hYl hj)
  ·exact CO (GI hfl hYl hj)
end
end Go.Proofs.M
end
