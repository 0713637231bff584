/-
  What functions of the program hand back, and plain laws on that. No condition.
-/
import Derived.Test.YtdlcbilgemnomaaGreatSxMae
import Derived.Test.YtdlcbilgemnomaaGreatSxMad
import Derived.Test.YtdlcbilgemnomaaGreatSxLibC
set_option linter.unusedSimpArgs false
set_option linter.unusedVariables false
section
namespace Go.Proofs
open Go Go.Sx Go.Proofs.T Go.Proofs.Q
set_option maxRecDepth 4000
attribute [local irreducible] VR VC thenQ blockQ retL
theorem QM {n:Nat} {g:Nat->Int} (h:∀i,i<n->0<=g i/\g i<=31/\(0<i->g (i-1)<g i)):n<=32:=by
 have h1:∀i,i<n->(i:Int)<=g i:=by
  intro i
  induction i with
  |zero=>intro hi;have:=(h 0 hi).1;omega
  |succ i ih=>
   intro hi;have h2:=ih (by omega);have h3:=(h (i+1) hi).2.2 (by omega);rw[Nat.add_sub_cancel] at h3;omega
 rcases AeW 32 n with h4|h4
 ·have:=h1 32 h4;have:=(h 32 h4).2.1;omega
 ·exact h4
theorem GA {l:List Int} (h:EA l=true):∀i,i<l.length->0<=l.getD i default/\l.getD i default<=31/\(0<i->l.getD (i-1) default<l.getD i default):=by
 intro i hi;simp only[EA,Bool.not_eq_true'] at h;have:=AeD (IL h hi);omega
theorem Hl {l:List Int} (h:EA l=true):l.length<=32:=QM (g:=fun i=>l.getD i default) (GA h)
theorem LZ {l:List Sn} (h:Hk l=true):∀i,i<l.length->0<=(l.getD i default).node/\(l.getD i default).node<=31/\0<=(l.getD i default).seq/\(l.getD i default).seq<=255/\(0<i->(l.getD (i-1) default).node<(l.getD i default).node):=by
 intro i hi;simp only[Hk,Bool.not_eq_true'] at h;have:=AeD (IL h hi);omega
theorem JO {l:List Sn} (h:Hk l=true):l.length<=32:=QM (g:=fun i=>(l.getD i default).node) fun i hi=>by
 have:=LZ h i hi;exact⟨this.1,this.2.1,this.2.2.2.2⟩
theorem Mz (l:List TC) (hl:l.length<=100000):FnS Tryz.prog 64 [AD (tcs l)] [] (.c (.row 7 l.length)) [(7,.row 107 6 (rowOf TC.enc l))]:=by
 refine fb Tryz.func64 (by kernel_rfl) rfl Tryz.ntmps64 Tryz.results64 rfl rfl rfl rfl fun E hS=>?_
 refine AK ?_
 repeat'(first|refine sR ?_|refine Aj rfl (by exact tt0) ?_|refine sq 1 rfl ?_|fail)
 refine BB ?_;refine BB ?_;refine Fx rfl rfl rfl rfl fun b hb=>?_
 repeat'(first|refine sB ?_|refine Aj rfl (by exact tt0) ?_|(refine gA ?_;first|refine Bf (gk rfl) rfl rfl rfl (by rfl) (by exact .rd) rfl rfl rfl (by(try dsimp only);omega) rfl rfl ?_)|(refine gD ?_;first|(refine Ay rfl ?_ ?_<;>intro h<;>have hq:=h<;>(try simp only[hqs] at hq)))|fail)
 ·have h0:l=[]:=Ae3 (hb (by assumption));subst h0;exact An (le_nil (T:=107) (sz:=6) (nm:=7) (t:=2) rfl rfl) (Bn Ab rfl rfl)
 ·refine An (Am (l:=[(2,.c (.row 7 l.length))]) (b:=[(7,.row 107 6 (rowOf TC.enc l))]) (fun n=>n) ⟨⟨_,rfl,.c (.row rfl (by simp))⟩,trivial⟩ ⟨⟨_,rfl,.Bc ?_ Ai⟩,trivial⟩ rfl (by simp only[wfL,wfs];rfl)) (Bn Ab rfl rfl);exact(List.nil_append _).trans (FC (enc:=TC.enc) (sz:=6) fun _=>rfl)
theorem Rh (l:List Hd) (hl:l.length<=100000):FnS Tryz.prog 214 [AD (hds l)] [] (.c (.row 7 l.length)) [(7,.row 110 5 (rowOf Hd.enc l))]:=by
 refine fb Tryz.func214 (by kernel_rfl) rfl Tryz.ntmps214 Tryz.results214 rfl rfl rfl rfl fun E hS=>?_
 refine AK ?_
 repeat'(first|refine sR ?_|refine Aj rfl (by exact tt0) ?_|refine sq 1 rfl ?_|fail)
 refine BB ?_;refine BB ?_;refine Fx rfl rfl rfl rfl fun b hb=>?_
 repeat'(first|refine sB ?_|refine Aj rfl (by exact tt0) ?_|(refine gA ?_;first|refine Bf (gk rfl) rfl rfl rfl (by rfl) (by exact .rd) rfl rfl rfl (by(try dsimp only);omega) rfl rfl ?_)|(refine gD ?_;first|(refine Ay rfl ?_ ?_<;>intro h<;>have hq:=h<;>(try simp only[hqs] at hq)))|fail)
 ·have h0:l=[]:=Ae3 (hb (by assumption));subst h0;exact An (le_nil (T:=110) (sz:=5) (nm:=7) (t:=2) rfl rfl) (Bn Ab rfl rfl)
 ·refine An (Am (l:=[(2,.c (.row 7 l.length))]) (b:=[(7,.row 110 5 (rowOf Hd.enc l))]) (fun n=>n) ⟨⟨_,rfl,.c (.row rfl (by simp))⟩,trivial⟩ ⟨⟨_,rfl,.Bc ?_ Ai⟩,trivial⟩ rfl (by simp only[wfL,wfs];rfl)) (Bn Ab rfl rfl);exact(List.nil_append _).trans (FC (enc:=Hd.enc) (sz:=5) fun _=>rfl)
theorem Rg (l:List Sn) (hl:l.length<=100000):FnS Tryz.prog 215 [AD (sns l)] [] (.c (.row 7 l.length)) [(7,.row 123 2 (rowOf Sn.enc l))]:=by
 refine fb Tryz.func215 (by kernel_rfl) rfl Tryz.ntmps215 Tryz.results215 rfl rfl rfl rfl fun E hS=>?_
 refine AK ?_
 repeat'(first|refine sR ?_|refine Aj rfl (by exact tt0) ?_|refine sq 1 rfl ?_|fail)
 refine BB ?_;refine BB ?_;refine Fx rfl rfl rfl rfl fun b hb=>?_
 repeat'(first|refine sB ?_|refine Aj rfl (by exact tt0) ?_|(refine gA ?_;first|refine Bf (gk rfl) rfl rfl rfl (by rfl) (by exact .rd) rfl rfl rfl (by(try dsimp only);omega) rfl rfl ?_)|(refine gD ?_;first|(refine Ay rfl ?_ ?_<;>intro h<;>have hq:=h<;>(try simp only[hqs] at hq)))|fail)
 ·have h0:l=[]:=Ae3 (hb (by assumption));subst h0;exact An (le_nil (T:=123) (sz:=2) (nm:=7) (t:=2) rfl rfl) (Bn Ab rfl rfl)
 ·refine An (Am (l:=[(2,.c (.row 7 l.length))]) (b:=[(7,.row 123 2 (rowOf Sn.enc l))]) (fun n=>n) ⟨⟨_,rfl,.c (.row rfl (by simp))⟩,trivial⟩ ⟨⟨_,rfl,.Bc ?_ Ai⟩,trivial⟩ rfl (by simp only[wfL,wfs];rfl)) (Bn Ab rfl rfl);exact(List.nil_append _).trans (FC (enc:=Sn.enc) (sz:=2) fun _=>rfl)
theorem MA (l:List FQ) (hl:l.length<=100000):FnS Tryz.prog 216 [AD (ints l)] [] (.c (.row 7 l.length)) [(7,.row 3 1 (rowOf FQ.enc l))]:=by
 refine fb Tryz.func216 (by kernel_rfl) rfl Tryz.ntmps216 Tryz.results216 rfl rfl rfl rfl fun E hS=>?_
 refine AK ?_
 repeat'(first|refine sR ?_|refine Aj rfl (by exact tt0) ?_|refine sq 1 rfl ?_|fail)
 refine BB ?_;refine BB ?_;refine Fx rfl rfl rfl rfl fun b hb=>?_
 repeat'(first|refine sB ?_|refine Aj rfl (by exact tt0) ?_|(refine gA ?_;first|refine Bf (gk rfl) rfl rfl rfl (by rfl) (by exact .rd) rfl rfl rfl (by(try dsimp only);omega) rfl rfl ?_)|(refine gD ?_;first|(refine Ay rfl ?_ ?_<;>intro h<;>have hq:=h<;>(try simp only[hqs] at hq)))|fail)
 ·have h0:l=[]:=Ae3 (hb (by assumption));subst h0;exact An (le_nil (T:=3) (sz:=1) (nm:=7) (t:=2) rfl rfl) (Bn Ab rfl rfl)
 ·refine An (Am (l:=[(2,.c (.row 7 l.length))]) (b:=[(7,.row 3 1 (rowOf FQ.enc l))]) (fun n=>n) ⟨⟨_,rfl,.c (.row rfl (by simp))⟩,trivial⟩ ⟨⟨_,rfl,.Bc ?_ Ai⟩,trivial⟩ rfl (by simp only[wfL,wfs];rfl)) (Bn Ab rfl rfl);exact(List.nil_append _).trans (FC (enc:=FQ.enc) (sz:=1) fun _=>rfl)
def Sta.csR (s:Sta) (H S:C):List C:=[.d (.int .i64 s.tb.node),.d (.int .i64 s.tb.len),.d (tcs s.tb.cells),.d (.int .i64 s.qu.Bk),.d (pks s.qu.Af),H,S,
 .d (.int .i64 s.list),.d (.int .i64 s.seq),.d (.int .i64 s.Bm),.d (.int .i64 s.tries),.d (.int .i64 s.back),.d (.int .i64 s.wait),.d (.int .i64 s.CP)]
theorem X5 {σ:St} {f:Nat->Nat} {L:List Nat} {T k:Nat} {l:List Hd} {c:C} (hk:k<l.length) (hc:CW σ f L c (.d (ints (l.getD k default).AQ))):
  BW σ f L (.row T 5 ((rowOf Hd.enc l).set k (Ec ((Hd.enc (l.getD k default)).map C.d) 4 [c]))) (.row T 5 (rowOf Hd.enc l)):=by
 refine .row ?_;refine A3.QV (by simp) fun i a b ha hb=>?_
 have hi:i<l.length:=by have:=(AeX.1 hb).1;rwa [Al] at this
 rw[Cc hi] at hb;injection hb with hb;subst hb
 by_cases hik:i=k
 ·subst hik;rw[It (Cc hi)] at ha;injection ha with ha;subst ha
  exact .cons .d (.cons .d (.cons .d (.cons .d (.cons hc .nil))))
 ·rw[AeA (fun e=>hik e.symm),Cc hi] at ha;injection ha with ha;subst ha
  exact CWs.refl (by simp[Hd.enc,C.isD])
set_option maxHeartbeats 1000000 in
theorem Dr (s:Sta) (hck:AT s=0):FnS Tryz.prog 160 [stA s] [] (.agg (s.csR (.row 101 s.held.length) (.row 102 s.seen.length)))
  [(101,.row 110 5 (rowOf Hd.enc s.held)),(102,.row 123 2 (rowOf Sn.enc s.seen))]:=by
 obtain⟨hT,hQ,_,hH,hSn,_,_⟩:=Bl hck;have hTl:=Cm hT;have hQl:=CJ hQ;have hHl:=DZ hH;have hSl:=JO hSn;refine fb Tryz.func160 (by kernel_rfl) rfl Tryz.ntmps160 Tryz.results160 rfl rfl rfl rfl fun E hS=>?_
 refine AK ?_
 repeat'(first|refine sC ?_|refine Aj rfl (by exact tt0) ?_|(refine gC ?_;first|refine Aa (Mz s.tb.cells (by omega)) (gk rfl) rfl rfl rfl (by(simp only[AZ,wfL,AH,wfs,Ae,Ad];rfl)) rfl (by exact B2) rfl ?_|refine Aa (GQ s.qu.Af (by omega)) (gk rfl) rfl rfl rfl (by(simp only[AZ,wfL,AH,wfs,Ae,Ad];rfl)) rfl (by exact B2) rfl ?_|refine Aa (Rh s.held (by omega)) (gk rfl) rfl rfl rfl (by(simp only[AZ,wfL,AH,wfs,Ae,Ad];rfl)) rfl (by exact B2) rfl ?_|refine Aa (Rg s.seen (by omega)) (gk rfl) rfl rfl rfl (by(simp only[AZ,wfL,AH,wfs,Ae,Ad];rfl)) rfl (by exact B2) rfl ?_)|(refine gE ?_;first|refine BA (gk rfl) rfl rfl (by exact Al.symm) rfl rfl ?_)|refine Ap (by kernel_rfl) ?_|fail)
 refine AA (ι:=Nat) (fun k=>AS [(1,.c (.ptr 1 0)),(2,.c (.ptr 2 0)),(26,AI s.held.length),(27,AI k)] [(1,.box (s.csR (.row 101 s.held.length) (.row 102 s.seen.length))),(2,.box noS.cs),(101,.row 110 5 (rowOf Hd.enc s.held)),(102,.row 123 2 (rowOf Sn.enc s.seen))])
  (fun k=>k<=s.held.length) (fun k=>s.held.length-k) 0 (AeV _) ?_ ?_
 ·refine Bv (fun n=>if n=101 then 18007 else if n=102 then 21007 else n) [7007,11007] hS ?_ ?_ rfl (by(simp only[wfL,wfs,Ae,Ad];rfl))
  all_goals repeat'(first|exact tt0|refine⟨⟨_,rfl,?_⟩,?_⟩|exact .c .d|exact .c (.ptr rfl)|exact .Bc rfl Ai|refine .box ?_|exact .nil|refine .cons ?_ ?_|exact .d|exact .row rfl rfl|exact .Ck (by(simp;done)) rfl rfl (fun _=>rfl)|fail)
 ·intro k hk;rcases AeW k s.held.length with hlt|hge
  ·have hal:=Hl (DO (hHl.2 k hlt).1).2.2.2.2.2.2
   repeat'(first|refine sC ?_|refine Aj rfl (by first|exact tt0|omega) ?_|(refine gC ?_;first|refine Aa (MA (s.held.getD k default).AQ (by omega)) (gk rfl) rfl rfl rfl (by(simp only[AZ,wfL,AH,wfs,Ae,Ad];rfl)) rfl (by exact B2) rfl ?_)|(refine gI ?_;first|refine BF (gk rfl) rfl rfl rfl rfl rfl rfl (by omega) (by omega) rfl ?_)|(refine gL ?_;first|refine Cn (gk rfl) rfl rfl (by omega) rfl rfl rfl ?_)|(refine gS ?_;first|refine By (gk rfl) rfl rfl rfl (by omega) rfl rfl rfl ?_)|refine Ap (by kernel_rfl) ?_|(refine gD ?_;first|(refine Ay rfl ?_ ?_<;>intro h<;>have hq:=h<;>(try simp only[hqs] at hq)))|fail)
   all_goals first
    |(exfalso;omega)
    |skip
   refine⟨k+1,by omega,by omega,?_⟩;refine Bv (fun n=>n) [39007] hS ?_ ?_ rfl (by(simp only[wfL,wfs,Ae,Ad];rfl))
   all_goals repeat'(first|exact tt0|refine⟨⟨_,rfl,?_⟩,?_⟩|exact .c .d|exact .c (.ptr rfl)|exact .Bh rfl rfl|exact .Bc rfl Ai|refine .box ?_|exact .nil|refine .cons ?_ ?_|exact .d|exact .row rfl rfl|fail)
   exact X5 hlt (.Ck (enc:=FQ.enc) (by simp) rfl rfl (fun _=>rfl))
  ·repeat'(first|refine sC ?_|refine Aj rfl (by exact tt0) ?_|(refine gD ?_;first|(refine Ay rfl ?_ ?_<;>intro h<;>have hq:=h<;>(try simp only[hqs] at hq)))|fail)
   all_goals first
    |(exfalso;omega)
    |skip
   refine An (Am (l:=[(2,.c (.ptr 2 0))]) (b:=[(2,.box (s.csR (.row 101 s.held.length) (.row 102 s.seen.length))),(101,.row 110 5 (rowOf Hd.enc s.held)),(102,.row 123 2 (rowOf Sn.enc s.seen))]) (fun n=>n) ?_ ?_ rfl (by(simp only[wfL,wfs,Ae,Ad];rfl))) (Ds Ab (.agg rfl rfl rfl rfl .nil) rfl (by repeat'(first|exact tt0|refine⟨rfl,?_⟩)))
   all_goals repeat'(first|exact tt0|refine⟨⟨_,rfl,?_⟩,?_⟩|exact .c (.ptr rfl)|exact .Bc rfl Ai|refine .box ?_|exact .nil|refine .cons ?_ ?_|exact .d|exact .row rfl rfl|fail)
end Go.Proofs
end
section
namespace Go.Proofs
open Go Go.Sx Go.Proofs.T Go.Proofs.Q
set_option maxRecDepth 4000
attribute [local irreducible] VR VC thenQ blockQ retL
set_option maxHeartbeats 1000000 in
theorem Gx (s:Sta) (slot:Int) (hck:AT s=0) (hs:0<=slot/\slot<=109951162):FnS Tryz.prog 171 [stA s,AI slot] [] (.tup [.c (.ptr 100 0),AI 0]) [(100,.box (wcs s (.row 101 s.held.length) (.row 102 s.seen.length) slot (atM s.tb slot).1)),(101,.row 110 5 (rowOf Hd.enc s.held)),(102,.row 123 2 (rowOf Sn.enc s.seen))]:=by
 have hc:=Dl s;rw[hck] at hc;refine fb Tryz.func171 (by kernel_rfl) rfl Tryz.ntmps171 Tryz.results171 rfl rfl rfl rfl fun E hS=>?_
 refine AK ?_
 repeat'(first|refine sB ?_|refine Aj rfl (by exact tt0) ?_|(refine gC ?_;first|refine Aa (hc) (gk rfl) rfl rfl rfl (by rfl) rfl (by exact Aw) rfl ?_|refine Aa (BC _ _) (gk rfl) rfl rfl rfl (by rfl) rfl (by exact Aw) rfl ?_|refine Aa (Dr s hck) (gk rfl) rfl rfl rfl (by(simp only[AZ,wfL,AH,wfs,Ae,Ad];rfl)) rfl (by((simp only[Ep,List.map_cons,List.map_nil,Blk.shift,Cr])<;>rfl)) rfl ?_|refine Aa (MI s.tb slot) (gk rfl) rfl rfl rfl (by rfl) rfl (by exact Aw) rfl ?_)|(refine gN ?_;first|refine Ak (gk rfl) rfl rfl ?_)|(refine gD ?_;first|refine Ag rfl ?_|(refine Ay rfl ?_ ?_<;>intro h<;>have hq:=h<;>(try simp only[hqs] at hq)))|fail)
 all_goals first
  |(exfalso;omega)
  |skip
 refine An (Am (l:=[(4,.c (.ptr 100 0)),(5,AI 0)]) (b:=[(100,.box (wcs s (.row 101 s.held.length) (.row 102 s.seen.length) slot (atM s.tb slot).1)),(101,.row 110 5 (rowOf Hd.enc s.held)),(102,.row 123 2 (rowOf Sn.enc s.seen))]) (fun n=>if n=100 then 17 else if n=101 then 14101 else if n=102 then 14102 else n) ?_ ?_ rfl (by(simp only[wfL,wfs,Ae,Ad];rfl))) (Ds Ab (.tmp rfl rfl (.tmp rfl rfl .nil)) rfl (by repeat'(first|exact tt0|refine⟨rfl,?_⟩)))
 all_goals repeat'(first|exact tt0|refine⟨⟨_,rfl,?_⟩,?_⟩|exact .c .d|exact .c (.ptr rfl)|exact .Bc rfl Ai|refine .box ?_|exact .nil|refine .cons ?_ ?_|exact .d|exact .row rfl rfl|fail)
theorem Ni (s:Sta) (slot:Int) (hck:¬AT s=0):FnS Tryz.prog 171 [stA s,AI slot] [] (.tup [AD (.raw (.pointer none)),AI 1]) []:=by
 have hc:=Dl s;have hd:decide (AT s≠0)=true:=by simp[hck]
 refine fb Tryz.func171 (by kernel_rfl) rfl Tryz.ntmps171 Tryz.results171 rfl rfl rfl rfl fun E hS=>?_
 repeat'(first|refine sB ?_|refine Aj rfl (by exact tt0) ?_|(refine gC ?_;first|refine Aa (hc) (gk rfl) rfl rfl rfl (by rfl) rfl (by exact Aw) rfl ?_)|(refine gD ?_;first|refine Ah rfl ?_|refine At rfl (by assumption) ?_)|fail)
 exact Cx Ab rfl rfl rfl rfl
theorem JL (s:Sta) (slot:Int) (hck:AT s=0) (hs:¬(0<=slot/\slot<=109951162)):FnS Tryz.prog 171 [stA s,AI slot] [] (.tup [AD (.raw (.pointer none)),AI 2]) []:=by
 have hc:=Dl s;rw[hck] at hc;have hd:(!decide (0<=slot/\slot<=109951162))=true:=by simp only[Bool.not_eq_true',Aeg];exact hs
 refine fb Tryz.func171 (by kernel_rfl) rfl Tryz.ntmps171 Tryz.results171 rfl rfl rfl rfl fun E hS=>?_
 repeat'(first|refine sB ?_|refine Aj rfl (by exact tt0) ?_|(refine gC ?_;first|refine Aa (hc) (gk rfl) rfl rfl rfl (by rfl) rfl (by exact Aw) rfl ?_|refine Aa (BC _ _) (gk rfl) rfl rfl rfl (by rfl) rfl (by exact Aw) rfl ?_)|(refine gD ?_;first|refine Ah rfl ?_|refine Ag rfl ?_|refine At rfl (by assumption) ?_)|fail)
 exact Cx Ab rfl rfl rfl rfl
theorem XC (s:Sta) (slot:Int):FnS Tryz.prog 127 [stA s,AI slot] [] (.tup [acA (Ru s slot).1,AI (Ru s slot).2]) []:=by
 refine fb Tryz.func127 (by kernel_rfl) rfl Tryz.ntmps127 Tryz.results127 rfl rfl rfl rfl fun E hS=>?_
 by_cases hck:AT s=0
 ·by_cases hs:0<=slot/\slot<=109951162
  ·have e:Ru s slot=(CV s slot (atM s.tb slot).1,0):=by rw[Ru,AeS (by omega),AeS (by omega)]
   rw[e]
   repeat'(first|refine sB ?_|refine Aj rfl (by exact tt0) ?_|(refine gC ?_;first|refine Aa (Gx s slot hck hs) (gk rfl) rfl rfl rfl (by(simp only[AZ,wfL,AH,wfs,Ae,Ad];rfl)) rfl (by((simp only[Ep,List.map_cons,List.map_nil,Blk.shift,Cr])<;>rfl)) rfl ?_|refine AJ [11100,11101,11102] (Cg s slot (atM s.tb slot).1 hck) (gk rfl) rfl (by(repeat'(first|exact .nil|refine .cons ?_ ?_|exact(KE (by simp) rfl (A9 (by simp) rfl rfl (fun _=>rfl)) (A9 (by simp) rfl rfl (fun _=>rfl)))))<;>fail) (by rfl) rfl (by rfl) rfl (by exact Aw) rfl ?_)|(refine gD ?_;first|refine Ag rfl ?_)|fail)
   exact AL Ab rfl rfl rfl rfl rfl rfl rfl
  ·have e:Ru s slot=(zAc,2):=by rw[Ru,AeS (by omega),AeT (by omega)]
   rw[e]
   repeat'(first|refine sB ?_|refine Aj rfl (by exact tt0) ?_|(refine gC ?_;first|refine Aa (JL s slot hck hs) (gk rfl) rfl rfl rfl (by rfl) rfl (by exact Aw) rfl ?_)|(refine gD ?_;first|refine Ah rfl ?_)|fail)
   exact AL Ab rfl rfl rfl rfl rfl rfl rfl
 ·have e:Ru s slot=(zAc,1):=by rw[Ru,AeT hck]
  rw[e]
  repeat'(first|refine sB ?_|refine Aj rfl (by exact tt0) ?_|(refine gC ?_;first|refine Aa (Ni s slot hck) (gk rfl) rfl rfl rfl (by rfl) rfl (by exact Aw) rfl ?_)|(refine gD ?_;first|refine Ah rfl ?_)|fail)
  exact AL Ab rfl rfl rfl rfl rfl rfl rfl
end Go.Proofs
end
section
namespace Go.Proofs
open Go Go.Sx Go.Proofs.T Go.Proofs.Q
set_option maxRecDepth 4000
attribute [local irreducible] VR VC thenQ blockQ retL
theorem FB {s:Sta} (h:R0 s=true):0<=s.list/\s.list<=255/\0<=s.seq/\s.seq<=255/\0<=s.back/\s.back<=5/\0<=s.wait/\s.wait<=2^s.back.toNat-1/\0<=s.CP/\s.CP<=2147483647:=AeC h
set_option maxHeartbeats 1000000 in
theorem Sr (s:Sta) (slot:Int) (c:TC) (id:Int) (hsq:0<=s.seq/\s.seq<=255):FnW Tryz.prog 241 [.c (.ptr 100 0),AI id] [(100,.box (wcs s (.d (hds s.held)) (.row 102 s.seen.length) slot c)),(102,.row 123 2 (rowOf Sn.enc s.seen))] [100,102] (.tup []) [(100,.box (wcs (DB s id) (.d (hds s.held)) (.row 102 s.seen.length) slot c)),(102,.row 123 2 (rowOf Sn.enc s.seen))]:=by
 intro r;simp only[Cd,List.map_cons,List.map_nil,List.cons_append,List.nil_append,Nat.reduceAdd];refine FnS.Bu (enters_of Tryz.func241 (by kernel_rfl) rfl) Tryz.func241 rfl Tryz.ntmps241 Tryz.results241 rfl (by first|rfl|(simp only[AZ,wfL,AH,wfs,Ae,Ad];rfl)) rfl fun E=>?_
 refine AK ?_
 repeat'(first|refine sB ?_|refine Aj rfl (by first|exact tt0|omega) ?_|(refine gC ?_;first|refine Aa (Q.Ts s.qu id) (gk rfl) rfl rfl rfl (by rfl) rfl (by exact Aw) rfl ?_)|(refine gN ?_;first|refine Ak (gk rfl) rfl rfl ?_)|fail)
 refine An (Am (l:=[]) (b:=[(9100,.pin 100 (r 100)),(9102,.pin 102 (r 102)),(100,.box (wcs (DB s id) (.d (hds s.held)) (.row 102 s.seen.length) slot c)),(102,.row 123 2 (rowOf Sn.enc s.seen))]) (fun n=>n) ?_ ?_ rfl (by(simp only[wfL,wfs,Ae,Ad];rfl))) (Ds BO .nil rfl (by exact⟨rfl,rfl,rfl,rfl,trivial⟩))
 all_goals repeat'(first|exact tt0|refine⟨⟨_,rfl,?_⟩,?_⟩|exact .pin rfl|exact .Bc rfl Ai|refine .box ?_|exact .nil|refine .cons ?_ ?_|exact .d|exact .row rfl rfl|fail)
set_option maxHeartbeats 2000000 in
theorem RG (s:Sta) (slot:Int) (c:TC) (AQ:Bool) (hck:AT s=0):FnW Tryz.prog 177 [.c (.ptr 100 0),AB AQ] [(100,.box (wcs s (.d (hds s.held)) (.row 102 s.seen.length) slot c)),(102,.row 123 2 (rowOf Sn.enc s.seen))] [100,102] (.tup []) [(100,.box (wcs (C3 s c AQ) (.d (hds s.held)) (.row 102 s.seen.length) slot c)),(102,.row 123 2 (rowOf Sn.enc s.seen))]:=by
 obtain⟨_,_,_,_,_,hty,hr⟩:=Bl hck;have hr:=FB hr;have hty:=AeC hty;intro r;simp only[Cd,List.map_cons,List.map_nil,List.cons_append,List.nil_append,Nat.reduceAdd];refine FnS.Bu (enters_of Tryz.func177 (by kernel_rfl) rfl) Tryz.func177 rfl Tryz.ntmps177 Tryz.results177 rfl (by first|rfl|(simp only[AZ,wfL,AH,wfs,Ae,Ad];rfl)) rfl fun E=>?_
 refine AK ?_;have hpw:=(Acn (min (s.back+1) 5)).resolve_left (by omega) |>.resolve_left (by omega);have e1:(BG s c).to=-1->C3 s c AQ=DB s (BG s c).id:=fun h=>AeT h
 have e2:¬(BG s c).to=-1->AQ=true\/4<=El s c->¬c.kind=3->C3 s c AQ=DB s (BG s c).id:=fun h h1 h2=>by rw[C3,AeS h,AeT h1,UL,AeS h2]
 have e3:¬(BG s c).to=-1->AQ=true\/4<=El s c->c.kind=3->C3 s c AQ={DB s (BG s c).id with back:=0,wait:=0}:=fun h h1 h2=>by rw[C3,AeS h,AeT h1,UL,AeT h2]
 have e4:¬(BG s c).to=-1->AQ=false->El s c<4->¬c.kind=3->C3 s c AQ={s with Bm:=(BG s c).id,tries:=El s c}:=fun h h1 h2 h3=>by rw[C3,AeS h,AeS (by rw[h1];simp;omega),OR,AeS h3]
 have e5:¬(BG s c).to=-1->AQ=false->El s c<4->c.kind=3->C3 s c AQ={s with Bm:=(BG s c).id,tries:=El s c,back:=min (s.back+1) 5,CP:=BR s.CP,wait:=BR s.CP/65536 % 2^(min (s.back+1) 5).toNat}:=fun h h1 h2 h3=>by rw[C3,AeS h,AeS (by rw[h1];simp;omega),OR,AeT h3];rfl
 have t1:s.Bm=(BG s c).id->El s c=s.tries+1:=fun h=>AeT h
 have t2:¬s.Bm=(BG s c).id->El s c=1:=fun h=>AeS h
 repeat'(first|(refine gR ?_;first|refine Aj rfl (by first|exact tt0|omega) ?_|(refine gC ?_;first|refine AJ [100,102] (TG s slot c) (gk rfl) rfl (by(repeat'(first|exact .nil|refine .cons ?_ ?_|exact(KE (by simp) rfl .d (A9 (by simp) rfl rfl (fun _=>rfl)))))<;>fail) (by rfl) rfl (by rfl) rfl (by exact Aw) rfl ?_|refine B5 (nmL []) [] [100,102] (Sr s slot c (BG s c).id ⟨hr.2.2.1,hr.2.2.2.1⟩) (gk rfl) rfl rfl (by(repeat'(first|exact .nil|refine .cons ?_ ?_|exact .w (.c (.ptr rfl)) rfl|exact .r (.of0 (.c .d))))<;>fail) (by(repeat'(first|exact tt0|refine⟨⟨_,rfl,?_⟩,?_⟩|exact .Bc rfl Ai|refine .box ?_|exact .nil|refine .cons ?_ ?_|exact .d|exact .row rfl rfl))<;>fail) rfl rfl rfl (by rfl) rfl (by(simp only[AZ,wfL,AH,wfs,Ae,Ad];rfl)) rfl rfl rfl (by(simp only[F2,List.map_cons,List.map_nil,Blk.ren,C.ren,Bw,B0,BZ,gW,D8,nmL,Nat.reduceBEq,Bool.or_false,Bool.or_true,Bool.false_or,Bool.true_or,cond_true,cond_false,Nat.reduceMul,Nat.reduceAdd])<;>rfl) (by(simp only[AV.ren,AV.Ik,List.map_cons,List.map_nil,C.ren,gW,D8,nmL,Nat.reduceBEq,Bool.or_false,Bool.or_true,Bool.false_or,Bool.true_or,cond_true,cond_false,Nat.reduceMul,Nat.reduceAdd])<;>rfl) rfl ?_)|(refine gN ?_;first|refine Ak (gk rfl) rfl rfl ?_)|(refine Ax rfl ?_ ?_<;>intro h<;>have hq:=h<;>(try simp only[hqs] at hq)))|(refine gO ?_;first|refine C7 ?_|refine Ap (by kernel_rfl) ?_)|(refine gT ?_;first|refine BX ?_|refine L8 ?_)|(show VC _ (.seq _ _) _ _;(fail_if_success (show VC _ (.seq (.seq (.region 14 _ _) _) _) _ _));(fail_if_success (show VC _ (.seq (.region 14 _ _) _) _ _));refine BB ?_)|refine Be ?_|refine Cp ?_|(show VC _ (.cond _ _ _) _ _;first|refine Ah rfl ?_|refine Ag rfl ?_|refine At rfl (by assumption) ?_|(refine Ay rfl ?_ ?_<;>intro h<;>have hq:=h<;>(try simp only[hqs] at hq)))|refine IN ?_|refine Ex ?_)
 ·rw[e1 hq];refine An (Am (l:=[]) (b:=[(9100,.pin 100 (r 100)),(9102,.pin 102 (r 102)),(100,.box (wcs (DB s (BG s c).id) (.d (hds s.held)) (.row 102 s.seen.length) slot c)),(102,.row 123 2 (rowOf Sn.enc s.seen))]) (fun n=>n) ?_ ?_ rfl (by(simp only[wfL,wfs,Ae,Ad];rfl))) (Ds Ab .nil rfl (by repeat'(first|exact tt0|refine⟨rfl,?_⟩)))
  all_goals repeat'(first|exact tt0|refine⟨⟨_,rfl,?_⟩,?_⟩|exact .pin rfl|exact .Bc rfl Ai|refine .box ?_|exact .nil|refine .cons ?_ ?_|exact .d|exact .row rfl rfl|fail)
 ·rw[e2 (by assumption) (.inl (by assumption)) hq];refine An (Am (l:=[]) (b:=[(9100,.pin 100 (r 100)),(9102,.pin 102 (r 102)),(100,.box (wcs (DB s (BG s c).id) (.d (hds s.held)) (.row 102 s.seen.length) slot c)),(102,.row 123 2 (rowOf Sn.enc s.seen))]) (fun n=>n) ?_ ?_ rfl (by(simp only[wfL,wfs,Ae,Ad];rfl))) (Ds Ab .nil rfl (by repeat'(first|exact tt0|refine⟨rfl,?_⟩)))
  all_goals repeat'(first|exact tt0|refine⟨⟨_,rfl,?_⟩,?_⟩|exact .pin rfl|exact .Bc rfl Ai|refine .box ?_|exact .nil|refine .cons ?_ ?_|exact .d|exact .row rfl rfl|fail)
 ·rw[e3 (by assumption) (.inl (by assumption)) hq];refine An (Am (l:=[]) (b:=[(9100,.pin 100 (r 100)),(9102,.pin 102 (r 102)),(100,.box (wcs {DB s (BG s c).id with back:=0,wait:=0} (.d (hds s.held)) (.row 102 s.seen.length) slot c)),(102,.row 123 2 (rowOf Sn.enc s.seen))]) (fun n=>n) ?_ ?_ rfl (by(simp only[wfL,wfs,Ae,Ad];rfl))) (Ds Ab .nil rfl (by repeat'(first|exact tt0|refine⟨rfl,?_⟩)))
  all_goals repeat'(first|exact tt0|refine⟨⟨_,rfl,?_⟩,?_⟩|exact .pin rfl|exact .Bc rfl Ai|refine .box ?_|exact .nil|refine .cons ?_ ?_|exact .d|exact .row rfl rfl|fail)
 ·have ht:=t1 (by assumption);rw[e2 (by assumption) (.inr (by omega)) hq];refine An (Am (l:=[]) (b:=[(9100,.pin 100 (r 100)),(9102,.pin 102 (r 102)),(100,.box (wcs (DB s (BG s c).id) (.d (hds s.held)) (.row 102 s.seen.length) slot c)),(102,.row 123 2 (rowOf Sn.enc s.seen))]) (fun n=>n) ?_ ?_ rfl (by(simp only[wfL,wfs,Ae,Ad];rfl))) (Ds Ab .nil rfl (by repeat'(first|exact tt0|refine⟨rfl,?_⟩)))
  all_goals repeat'(first|exact tt0|refine⟨⟨_,rfl,?_⟩,?_⟩|exact .pin rfl|exact .Bc rfl Ai|refine .box ?_|exact .nil|refine .cons ?_ ?_|exact .d|exact .row rfl rfl|fail)
 ·have ht:=t1 (by assumption);rw[e3 (by assumption) (.inr (by omega)) hq];refine An (Am (l:=[]) (b:=[(9100,.pin 100 (r 100)),(9102,.pin 102 (r 102)),(100,.box (wcs {DB s (BG s c).id with back:=0,wait:=0} (.d (hds s.held)) (.row 102 s.seen.length) slot c)),(102,.row 123 2 (rowOf Sn.enc s.seen))]) (fun n=>n) ?_ ?_ rfl (by(simp only[wfL,wfs,Ae,Ad];rfl))) (Ds Ab .nil rfl (by repeat'(first|exact tt0|refine⟨rfl,?_⟩)))
  all_goals repeat'(first|exact tt0|refine⟨⟨_,rfl,?_⟩,?_⟩|exact .pin rfl|exact .Bc rfl Ai|refine .box ?_|exact .nil|refine .cons ?_ ?_|exact .d|exact .row rfl rfl|fail)
 ·have ht:=t1 (by assumption);rw[e4 (by assumption) (by assumption) (by omega) hq,ht];refine An (Am (l:=[]) (b:=[(9100,.pin 100 (r 100)),(9102,.pin 102 (r 102)),(100,.box (wcs {s with Bm:=(BG s c).id,tries:=s.tries+1} (.d (hds s.held)) (.row 102 s.seen.length) slot c)),(102,.row 123 2 (rowOf Sn.enc s.seen))]) (fun n=>n) ?_ ?_ rfl (by(simp only[wfL,wfs,Ae,Ad];rfl))) (Ds Ab .nil rfl (by repeat'(first|exact tt0|refine⟨rfl,?_⟩)))
  all_goals repeat'(first|exact tt0|refine⟨⟨_,rfl,?_⟩,?_⟩|exact .pin rfl|exact .Bc rfl Ai|refine .box ?_|exact .nil|refine .cons ?_ ?_|exact .d|exact .row rfl rfl|fail)
 ·have ht:=t1 (by assumption);rw[e5 (by assumption) (by assumption) (by omega) hq,ht];obtain⟨t,hte⟩:∃t:Sta,t={s with Bm:=(BG s c).id,tries:=s.tries+1,back:=min (s.back+1) 5}:=⟨_,rfl⟩;have hts:t.CP=s.CP:=by rw[hte]
  have htb:t.back=min (s.back+1) 5:=by rw[hte]
  rw[<-htb] at hpw;have eX:({s with Bm:=(BG s c).id,tries:=s.tries+1,back:=min (s.back+1) 5,CP:=BR s.CP,wait:=BR s.CP/65536 % 2^(min (s.back+1) 5).toNat}:Sta)={t with CP:=BR t.CP,wait:=BR t.CP/65536 % 2^t.back.toNat}:=by rw[hte]
  rw[eX];refine VC.le (σ':=AS [(0,.c (.ptr 100 0))] [(9100,.pin 100 (r 100)),(9102,.pin 102 (r 102)),(100,.box (wcs {s with Bm:=(BG s c).id,tries:=s.tries+1,back:=min (s.back+1) 5} (.d (hds s.held)) (.row 102 s.seen.length) slot c)),(102,.row 123 2 (rowOf Sn.enc s.seen))]) ?_ ?_
  ·refine Am (fun n=>n) ?_ ?_ rfl (by(simp only[wfL,wfs,Ae,Ad];rfl))
   all_goals repeat'(first|exact tt0|refine⟨⟨_,rfl,?_⟩,?_⟩|exact .c (.ptr rfl)|exact .pin rfl|exact .Bc rfl Ai|refine .box ?_|exact .nil|refine .cons ?_ ?_|exact .d|exact .row rfl rfl|fail)
  rw[<-hte]
  repeat'(first|refine sB ?_|refine Aj rfl (by first|exact tt0|omega) ?_|(refine gN ?_;first|refine Ak (gk rfl) rfl rfl ?_)|(refine gB ?_;first|refine LN (gk rfl) rfl rfl (by omega) rfl (by omega) ?_)|refine Ap (by kernel_rfl) ?_|fail)
  refine An (Am (l:=[]) (b:=[(9100,.pin 100 (r 100)),(9102,.pin 102 (r 102)),(100,.box (wcs {t with CP:=BR t.CP,wait:=BR t.CP/65536 % 2^t.back.toNat} (.d (hds s.held)) (.row 102 s.seen.length) slot c)),(102,.row 123 2 (rowOf Sn.enc s.seen))]) (fun n=>n) ?_ ?_ rfl (by(simp only[wfL,wfs,Ae,Ad];rfl))) (Ds BO .nil rfl (by exact⟨rfl,rfl,rfl,rfl,trivial⟩))
  all_goals repeat'(first|exact tt0|refine⟨⟨_,rfl,?_⟩,?_⟩|exact .pin rfl|exact .Bc rfl Ai|refine .box ?_|exact .nil|refine .cons ?_ ?_|exact .d|exact .row rfl rfl|fail)
  exact AbR (by rw[Int.one_mul];rfl)
 ·rw[e2 (by assumption) (.inl (by assumption)) hq];refine An (Am (l:=[]) (b:=[(9100,.pin 100 (r 100)),(9102,.pin 102 (r 102)),(100,.box (wcs (DB s (BG s c).id) (.d (hds s.held)) (.row 102 s.seen.length) slot c)),(102,.row 123 2 (rowOf Sn.enc s.seen))]) (fun n=>n) ?_ ?_ rfl (by(simp only[wfL,wfs,Ae,Ad];rfl))) (Ds Ab .nil rfl (by repeat'(first|exact tt0|refine⟨rfl,?_⟩)))
  all_goals repeat'(first|exact tt0|refine⟨⟨_,rfl,?_⟩,?_⟩|exact .pin rfl|exact .Bc rfl Ai|refine .box ?_|exact .nil|refine .cons ?_ ?_|exact .d|exact .row rfl rfl|fail)
 ·rw[e3 (by assumption) (.inl (by assumption)) hq];refine An (Am (l:=[]) (b:=[(9100,.pin 100 (r 100)),(9102,.pin 102 (r 102)),(100,.box (wcs {DB s (BG s c).id with back:=0,wait:=0} (.d (hds s.held)) (.row 102 s.seen.length) slot c)),(102,.row 123 2 (rowOf Sn.enc s.seen))]) (fun n=>n) ?_ ?_ rfl (by(simp only[wfL,wfs,Ae,Ad];rfl))) (Ds Ab .nil rfl (by repeat'(first|exact tt0|refine⟨rfl,?_⟩)))
  all_goals repeat'(first|exact tt0|refine⟨⟨_,rfl,?_⟩,?_⟩|exact .pin rfl|exact .Bc rfl Ai|refine .box ?_|exact .nil|refine .cons ?_ ?_|exact .d|exact .row rfl rfl|fail)
 ·have ht:=t2 (by assumption);rw[e4 (by assumption) (by assumption) (by omega) hq,ht];refine An (Am (l:=[]) (b:=[(9100,.pin 100 (r 100)),(9102,.pin 102 (r 102)),(100,.box (wcs {s with Bm:=(BG s c).id,tries:=1} (.d (hds s.held)) (.row 102 s.seen.length) slot c)),(102,.row 123 2 (rowOf Sn.enc s.seen))]) (fun n=>n) ?_ ?_ rfl (by(simp only[wfL,wfs,Ae,Ad];rfl))) (Ds Ab .nil rfl (by repeat'(first|exact tt0|refine⟨rfl,?_⟩)))
  all_goals repeat'(first|exact tt0|refine⟨⟨_,rfl,?_⟩,?_⟩|exact .pin rfl|exact .Bc rfl Ai|refine .box ?_|exact .nil|refine .cons ?_ ?_|exact .d|exact .row rfl rfl|fail)
 ·have ht:=t2 (by assumption);rw[e5 (by assumption) (by assumption) (by omega) hq,ht];obtain⟨t,hte⟩:∃t:Sta,t={s with Bm:=(BG s c).id,tries:=1,back:=min (s.back+1) 5}:=⟨_,rfl⟩;have hts:t.CP=s.CP:=by rw[hte]
  have htb:t.back=min (s.back+1) 5:=by rw[hte]
  rw[<-htb] at hpw;have eX:({s with Bm:=(BG s c).id,tries:=1,back:=min (s.back+1) 5,CP:=BR s.CP,wait:=BR s.CP/65536 % 2^(min (s.back+1) 5).toNat}:Sta)={t with CP:=BR t.CP,wait:=BR t.CP/65536 % 2^t.back.toNat}:=by rw[hte]
  rw[eX];refine VC.le (σ':=AS [(0,.c (.ptr 100 0))] [(9100,.pin 100 (r 100)),(9102,.pin 102 (r 102)),(100,.box (wcs {s with Bm:=(BG s c).id,tries:=1,back:=min (s.back+1) 5} (.d (hds s.held)) (.row 102 s.seen.length) slot c)),(102,.row 123 2 (rowOf Sn.enc s.seen))]) ?_ ?_
  ·refine Am (fun n=>n) ?_ ?_ rfl (by(simp only[wfL,wfs,Ae,Ad];rfl))
   all_goals repeat'(first|exact tt0|refine⟨⟨_,rfl,?_⟩,?_⟩|exact .c (.ptr rfl)|exact .pin rfl|exact .Bc rfl Ai|refine .box ?_|exact .nil|refine .cons ?_ ?_|exact .d|exact .row rfl rfl|fail)
  rw[<-hte]
  repeat'(first|refine sB ?_|refine Aj rfl (by first|exact tt0|omega) ?_|(refine gN ?_;first|refine Ak (gk rfl) rfl rfl ?_)|(refine gB ?_;first|refine LN (gk rfl) rfl rfl (by omega) rfl (by omega) ?_)|refine Ap (by kernel_rfl) ?_|fail)
  refine An (Am (l:=[]) (b:=[(9100,.pin 100 (r 100)),(9102,.pin 102 (r 102)),(100,.box (wcs {t with CP:=BR t.CP,wait:=BR t.CP/65536 % 2^t.back.toNat} (.d (hds s.held)) (.row 102 s.seen.length) slot c)),(102,.row 123 2 (rowOf Sn.enc s.seen))]) (fun n=>n) ?_ ?_ rfl (by(simp only[wfL,wfs,Ae,Ad];rfl))) (Ds BO .nil rfl (by exact⟨rfl,rfl,rfl,rfl,trivial⟩))
  all_goals repeat'(first|exact tt0|refine⟨⟨_,rfl,?_⟩,?_⟩|exact .pin rfl|exact .Bc rfl Ai|refine .box ?_|exact .nil|refine .cons ?_ ?_|exact .d|exact .row rfl rfl|fail)
  exact AbR (by rw[Int.one_mul];rfl)
abbrev Mt:List DV->DV->Prop:=fun ds r=>∃x y:Sn,ds=[.agg x.enc,.agg y.enc]/\r=.d (.int .i64 (Ha x.node y.node))
theorem HK (l:List Sn) (y:Sn) (hl:l.length<=1000000):FnS Tryz.prog 247 [AD (sns l),snA y,.clo Mt] [] (.tup [AI (bsK Sn.node l y.node),AB (fdK Sn.node l y.node)]) []:=by
 refine fb Tryz.func247 (by kernel_rfl) rfl Tryz.ntmps247 Tryz.results247 rfl rfl rfl rfl fun E hS=>?_
 repeat'(first|refine sC ?_|refine Aj rfl (by exact tt0) ?_|fail)
 refine AA (ι:=Nat×Nat) (fun p=>AS [(0,AD (sns l)),(2,.clo Mt),(4,.c (.ptr 4 0)),(8,AI l.length),(9,AI p.1),(10,AI p.2)] [(4,.box y.cs)])
  (fun p=>p.1<=p.2/\p.2<=l.length/\bs (fun i=>decide ((l.getD i default).node<y.node)) p.1 p.2=bsK Sn.node l y.node) (fun p=>p.2-p.1) (0,l.length) ⟨AeV _,AeU _,rfl⟩ ?_ ?_
 ·refine lg ?_ ?_ rfl (by rfl)
  all_goals repeat'(first|exact tt0|refine⟨⟨_,rfl,?_⟩,?_⟩|exact .c .d|exact .clo|exact .c (.ptr rfl)|exact .Bh rfl rfl|fail)
 ·rintro⟨i,j⟩ ⟨h1,h2,h3⟩;dsimp only at h1 h2 h3 ⊢
  repeat'(first|refine sC ?_|refine Aj rfl (by first|exact tt0|omega) ?_|(refine gC ?_;first|refine EV (⟨_,_,rfl,rfl⟩) (gk rfl) rfl rfl rfl rfl ?_)|(refine gI ?_;first|refine Aq (gk rfl) rfl rfl rfl rfl rfl (by omega) rfl ?_|refine D4 (gk rfl) rfl rfl rfl rfl (by omega) rfl ?_)|(refine gV ?_;first|refine Ba (gk rfl) rfl ⟨_,rfl⟩ rfl (by first|exact wrap_i64 (by omega)|exact wrap_u64 (by omega)) rfl ?_)|(refine gB ?_;first|refine MZ (m:=1) (gk rfl) rfl rfl rfl (by decide) rfl ?_)|(refine Ax rfl ?_ ?_<;>intro h<;>have hq:=h<;>(try simp only[hqs] at hq))|refine Ap (by kernel_rfl) ?_|(refine gD ?_;first|(refine Ay rfl ?_ ?_<;>intro h<;>have hq:=h<;>(try simp only[hqs] at hq)))|fail)
  ·have e:(((i:Int)+(j:Int))/2^1).toNat=(i+j)/2:=by omega
   rw[e] at hq;refine⟨((i+j)/2+1,j),⟨by dsimp only;omega,h2,?_⟩,by dsimp only;omega,?_⟩
   ·rw[<-h3]
    conv=>rhs;rw[bs,AeT (by omega)]
    rw[AeT];exact Aed (EJ.1 hq)
   ·dsimp only;refine lg ?_ ?_ rfl (by rfl)
    all_goals repeat'(first|exact tt0|refine⟨⟨_,rfl,?_⟩,?_⟩|exact .c .d|exact .clo|exact .c (.ptr rfl)|exact .Bh rfl rfl|fail)
  ·have e:(((i:Int)+(j:Int))/2^1).toNat=(i+j)/2:=by omega
   rw[e] at hq;refine⟨(i,(i+j)/2),⟨by dsimp only;omega,by dsimp only;omega,?_⟩,by dsimp only;omega,?_⟩
   ·rw[<-h3]
    conv=>rhs;rw[bs,AeT (by omega)]
    rw[AeS];rw[Aef,<-EJ];exact Int.not_lt.2 hq
   ·dsimp only;refine lg ?_ ?_ rfl (by rfl)
    all_goals repeat'(first|exact tt0|refine⟨⟨_,rfl,?_⟩,?_⟩|exact .c .d|exact .clo|exact .c (.ptr rfl)|exact .Bh rfl rfl|fail)
  all_goals(have e0:bsK Sn.node l y.node=i:=by
             rw[<-h3,bs,AeS (by omega)])
  all_goals refine Cx Ab rfl rfl (by rw[e0]) ?_
  ·rw[fdK,e0,Aed (p:=i<l.length) (by omega),Bool.true_and];exact congrArg D.bool (decide_eq_decide.2 Kt.symm)
  ·rw[fdK,e0,Aee (p:=i<l.length) (by omega)];rfl
theorem PU (x y:Sn):FnS Tryz.prog 248 [snA x,snA y] [] (AI (Ha x.node y.node)) []:=by
 refine fb Tryz.func248 (by kernel_rfl) rfl Tryz.ntmps248 Tryz.results248 rfl rfl rfl rfl fun E hS=>?_
 repeat'(first|refine sB ?_|refine Aj rfl (by exact tt0) ?_|(refine gC ?_;first|refine Aa (GP _ _) (gk rfl) rfl rfl rfl (by rfl) rfl (by exact Aw) rfl ?_)|fail)
 all_goals exact AG Ab rfl rfl
theorem Lw {σ:St} {L:List Nat}:AR Tryz.prog σ L (.fnc 248 []) (.clo Mt):=
 .fnc .nil (enters_of Tryz.func248 (by kernel_rfl) rfl) (by rintro _ _ ⟨x,t,rfl,rfl⟩;exact⟨rfl,PU x t⟩)
theorem WU (l:List Sn) (x:Sn):FnS Tryz.prog 292 [AD (sns l),snA x] [] (AI (oI (Fl l fun y=>decide (x=y)))) []:=by
 refine fb Tryz.func292 (by kernel_rfl) rfl Tryz.ntmps292 Tryz.results292 rfl rfl rfl rfl fun E hS=>?_
 refine BP (t:=0) rfl fun hb=>?_
 repeat'(first|refine sC ?_|refine Aj rfl (by exact tt0) ?_|fail)
 refine AA (ι:=Nat) (fun k=>AS [(0,AD (sns l)),(3,.c (.ptr 3 0)),(7,AI l.length),(8,AI k)] [(3,.box x.cs)]) (fun k=>k<=l.length/\∀i,i<k->decide (x=l.getD i default)=false) (fun k=>l.length-k) 0 ⟨AeV _,fun i hi=>absurd hi (AeQ _)⟩ ?_ ?_
 ·refine lg ?_ ?_ rfl (by rfl)
  all_goals repeat'(first|exact tt0|refine⟨⟨_,rfl,?_⟩,?_⟩|exact .c .d|exact .c (.ptr rfl)|exact .Bh rfl rfl|fail)
 ·intro k hk
  repeat'(first|refine sC ?_|refine Aj rfl (by first|exact tt0|omega) ?_|(refine gI ?_;first|refine Aq (gk rfl) rfl rfl rfl rfl rfl (by omega) rfl ?_)|(refine gB ?_;first|refine Ym (gk rfl) rfl rfl rfl rfl rfl rfl rfl ?_)|refine Ap (by kernel_rfl) ?_|(refine gD ?_;first|(refine Ay rfl ?_ ?_<;>intro h<;>have hq:=h<;>(try simp only[hqs] at hq)))|fail)
  ·refine AG Ab rfl ?_;rw[Er (l:=l) (p:=fun y=>decide (x=y)) hk.2 (by omega) (Aed (AcX hq))];rfl
  ·refine⟨k+1,⟨by omega,fun i hi=>?_⟩,by omega,?_⟩
   ·by_cases hik:i<k
    ·exact hk.2 i hik
    ·have:i=k:=by omega
     subst this;exact Aee fun e=>hq (AcW e)
   ·refine lg ?_ ?_ rfl (by rfl)
    all_goals repeat'(first|exact tt0|refine⟨⟨_,rfl,?_⟩,?_⟩|exact .c .d|exact .c (.ptr rfl)|exact .Bh rfl rfl|fail)
  ·refine AG Ab rfl ?_;have:k=l.length:=by omega
   subst this;rw[DI (l:=l) (p:=fun y=>decide (x=y)) hk.2];rfl
theorem Kq (l:List Sn) (x:Sn):FnS Tryz.prog 246 [AD (sns l),snA x] [] (AB (l.any fun y=>decide (x=y))) []:=by
 refine fb Tryz.func246 (by kernel_rfl) rfl Tryz.ntmps246 Tryz.results246 rfl rfl rfl rfl fun E hS=>?_
 repeat'(first|refine sB ?_|refine Aj rfl (by exact tt0) ?_|(refine gC ?_;first|refine Aa (WU l x) (gk rfl) rfl rfl rfl (by rfl) rfl (by exact Aw) rfl ?_)|fail)
 all_goals exact As Ab rfl (E1 _ _).symm
instance AdN:Overlaps Tryz.prog 293:=
 ⟨38,4,123,2,AM.slice Tryz.XO rfl,fun w=>AM.Bj Tryz.Tv w,fun args w=>run_callFunc_extern Tryz.func293 (by kernel_rfl) (by kernel_rfl) (by kernel_rfl) (by kernel_rfl) args w⟩
abbrev Sn1 (x:Sn):D:=.rd 1 2 fun _ j=>(Sn.enc x).getD j .Dh
theorem Lt (l:List Sn) (i:Nat) (x:Sn):rowOf Sn.enc (Bp l i x)=List.take i (rowOf Sn.enc l)++(Sn.enc x).map C.d :: List.drop i (rowOf Sn.enc l):=by
 rw[Bp,A4,CH,Eu]
 rfl
theorem Uz (l:List Sn) (i:Nat) (x:Sn) (hl:l.length<=100000) (hi:i<=l.length):FnS Tryz.prog 249 [.c (.row 0 l.length),AI i,AD (Sn1 x)] [(0,.row 123 2 (rowOf Sn.enc l))]
  (.c (.row 1 (l.length+1))) [(1,.row 123 2 (rowOf Sn.enc (Bp l i x)))]:=by
 refine FnS.Bu (enters_of Tryz.func249 (by kernel_rfl) rfl) Tryz.func249 rfl Tryz.ntmps249 Tryz.results249 rfl (by first|rfl|(simp only[AZ,wfL,AH,wfs,Ae,Ad];rfl)) rfl fun E=>?_
 refine AK ?_
 repeat'(first|refine sR ?_|refine Aj rfl (by exact tt0) ?_|(refine gE ?_;first|refine BA (gk rfl) rfl rfl (by exact Al.symm) rfl rfl ?_)|(refine gA ?_;first|refine Bf (gk rfl) rfl rfl rfl (by exact Al.symm) (by exact .rd) rfl rfl rfl (by(try dsimp only);omega) rfl rfl ?_)|(show VR _ _ _ (⟨_,.slice _ _ _ _ _,_,_,_,_⟩ :: _) _ _ _;first|refine Bg (gk rfl) rfl rfl (by exact .row) rfl rfl (by exact .int rfl rfl) (by exact .no) (by omega) (by(simp only[lns];omega)) (by(simp only[lns];omega)) rfl ?_)|refine sq 8 rfl ?_|(refine gD ?_;first|refine Ag rfl ?_|(refine Ay rfl ?_ ?_<;>intro h<;>have hq:=h<;>(try simp only[hqs] at hq)))|fail)
 ·have e:i=l.length:=by omega
  subst e;refine An (Am (l:=[(6,.c (.row 1 (l.length+1)))]) (b:=[(1,.row 123 2 (rowOf Sn.enc (Bp l l.length x)))]) (fun n=>if n=1 then 25 else n) ⟨⟨_,rfl,.c (.row rfl rfl)⟩,trivial⟩
   ⟨⟨_,rfl,.Bc ?_ Ai⟩,trivial⟩ rfl (by simp only[wfL,wfs];rfl)) (Bn Ab rfl rfl)
  rw[Bp,List.take_length,List.drop_length,A4]
  rfl
 ·refine Ed (nm:=0) rfl (EW (by omega)) fun cp spare hcp hmax=>?_
  rw[Al] at hcp
  repeat'(first|refine sR ?_|refine Aj rfl (by first|exact tt0|omega) ?_|(refine gC ?_;first|refine Ft (gk rfl) rfl rfl rfl (by exact .full) (by omega) rfl rfl rfl ?_)|(refine gA ?_;first|refine Db (gk rfl) rfl rfl rfl rfl rfl rfl rfl rfl rfl rfl (by omega) (by(simp only[lns];omega)) (by omega) (by(try dsimp only);omega) rfl rfl ?_)|(show VR _ _ _ (⟨_,.slice _ _ _ _ _,_,_,_,_⟩ :: _) _ _ _;first|refine B8 (gk rfl) rfl rfl (by exact .full) rfl rfl (by first|exact .no|exact .int rfl rfl) (by omega) (by omega) rfl ?_|refine Bg (gk rfl) rfl rfl (by exact .full) rfl rfl (by exact .int rfl rfl) (by exact .no) (by omega) (by omega) (by omega) rfl ?_)|(show VR _ _ _ (⟨_,.call ⟨.builtin .copy,_,_⟩,_,_,_,_⟩ :: _) _ _ _;first|refine F7 (gk rfl) rfl rfl (by exact .sub) rfl (by first|exact .src .rd|exact .tail rfl (by(simp only[lns];omega)) (by omega)) rfl rfl rfl (by(simp only[lns];omega)) (by omega) rfl ?_)|(show VR _ _ _ (⟨_,.call ⟨.builtin .cap,_,_⟩,_,_,_,_⟩ :: _) _ _ _;first|refine Fw (gk rfl) rfl rfl rfl rfl ?_)|refine Ap (by kernel_rfl) ?_|refine sq 10 rfl ?_|(refine gD ?_;first|refine Ah rfl ?_|(refine Ay rfl ?_ ?_<;>intro h<;>have hq:=h<;>(try simp only[hqs] at hq)))|fail)
  ·have hq1:((l.length:Int)+(1:Nat)-i).toNat=l.length+1-i:=by omega
   refine Ed (nm:=40) rfl (by
    intro e;have:=congrArg List.length e;rw[Aeh,Aeq] at this;change _+_=0 at this;omega) fun cp2 spare2 hcp2 hmax2=>?_
   rw[Aeh,Aeq,Aem,Al] at hcp2
   repeat'(first|refine sB ?_|refine Aj rfl (by first|exact tt0|omega) ?_|(show VR _ _ _ (⟨_,.slice _ _ _ _ _,_,_,_,_⟩ :: _) _ _ _;first|refine Bg (gk rfl) rfl rfl (by exact .full) rfl rfl (by exact .int rfl rfl) (by exact .no) (by omega) (by omega) (by omega) rfl ?_)|(show VR _ _ _ (⟨_,.call ⟨.builtin .copy,_,_⟩,_,_,_,_⟩ :: _) _ _ _;first|refine F7 (gk rfl) rfl rfl (by exact .sub) rfl (by first|exact .src .rd|exact .src (.sub rfl (by exact .full) (by(simp only[lns];omega)))) rfl rfl rfl (by(simp only[lns];omega)) (by omega) rfl ?_)|refine Ap (by kernel_rfl) ?_|fail)
   refine An (Am (l:=[(6,.c (.row 1 (l.length+1)))]) (b:=[(1,.row 123 2 (rowOf Sn.enc (Bp l i x)))]) (fun n=>if n=1 then 40 else n) ⟨⟨_,rfl,.c (.row rfl (by omega))⟩,trivial⟩
    ⟨⟨_,rfl,.I4 (l.length+1) ?_⟩,trivial⟩ rfl (by simp only[wfL,wfs];rfl)) (Bn Ab rfl rfl)
   rw[hq1,show min 1 (i+(l.length+1-i)-i)=1 by omega,show min (l.length-i) (i+(l.length+1-i)-(i+1))=l.length-i by omega];exact(Jv (y:=(Sn.enc x).map C.d) (Al (enc:=Sn.enc)) (by omega) rfl).trans (Lt l i x).symm
  ·refine An (Am (l:=[(6,.c (.row 1 (l.length+1)))]) (b:=[(1,.row 123 2 (rowOf Sn.enc (Bp l i x)))]) (fun n=>if n=1 then 0 else n) ⟨⟨_,rfl,.c (.row rfl rfl)⟩,trivial⟩
    ⟨⟨_,rfl,.I4 (l.length+1) ?_⟩,trivial⟩ rfl (by simp only[wfL,wfs];rfl)) (Bn Ab rfl rfl)
   rw[show min 1 (l.length+1-i)=1 by omega,show min (l.length+1-i) (l.length+1-(i+1))=l.length-i by omega];exact(Ju (y:=(Sn.enc x).map C.d) (Al (enc:=Sn.enc)) (by omega)).trans (Lt l i x).symm
def HI (f:Fr):Sn:=⟨f.source,f.seq⟩
def RQ (s:Sta) (f:Fr):List Sn:=MV Sn.node s.seen (HI f)
def Aan (s:Sta) (f:Fr):Bool:=match Oa s.held f.Ca with|none=>true|some i=>decide ((s.held.getD i default).frame≠f.number)
def Acs (s:Sta) (f:Fr):Bool:=!s.seen.any fun y=>decide (HI f=y)
def Ch (s:Sta) (f:Fr):Sta×Up:=
 if Td f s.tb.node=false\/f.kind=2 then(s,zUp)
 else if f.kind=1 then(s,Ta f (Aan s f))
 else if f.kind=4/\f.target=s.tb.node then({s with seen:=RQ s f},Ta f (Acs s f))
 else(s,Ta f true)
theorem Nn {l:List Sn} (h:Hk l=true):MW Sn.node l:=L3 fun i hi h0=>(LZ h i hi).2.2.2.2 h0
set_option maxHeartbeats 4000000 in
theorem C1 (s:Sta) (slot:Int) (c:TC) (f:Fr) (hsn:Hk s.seen=true):FnW Tryz.prog 179 [.c (.ptr 100 0),frA f] [(100,.box (wcs s (.d (hds s.held)) (.row 102 s.seen.length) slot c)),(102,.row 123 2 (rowOf Sn.enc s.seen))] [100] (upA (Ch s f).2) [(100,.box (wcs (Ch s f).1 (.d (hds s.held)) (.row 103 (Ch s f).1.seen.length) slot c)),(103,.row 123 2 (rowOf Sn.enc (Ch s f).1.seen))]:=by
 have hsl:=JO hsn;have hri:=Nn hsn;have hbs:=(H6 hri (HI f).node).1;have hbs':bsK Sn.node s.seen (HI f).node<=s.seen.length:=hbs;have hud:=Pd (x:=HI f) hri;intro r;simp only[Cd,List.map_cons,List.map_nil,List.cons_append,List.nil_append,Nat.reduceAdd];refine FnS.Bu (enters_of Tryz.func179 (by kernel_rfl) rfl) Tryz.func179 rfl Tryz.ntmps179 Tryz.results179 rfl (by first|rfl|(simp only[AZ,wfL,AH,wfs,Ae,Ad];rfl)) rfl fun E=>?_
 refine AK ?_;cases hfo:Td f s.tb.node with
 |false=>
  have e:Ch s f=(s,zUp):=AeT (.inl hfo);have hd:(!Td f s.tb.node)=true:=by rw[hfo];rfl
  rw[e]
  repeat'(first|refine sB ?_|refine Aj rfl (by exact tt0) ?_|(refine gC ?_;first|refine Aa (FN f s.tb.node) (gk rfl) rfl rfl rfl (by rfl) rfl (by exact Aw) rfl ?_)|(refine gN ?_;first|refine Ak (gk rfl) rfl rfl ?_)|refine Az rfl (by assumption) ?_|refine Ap (by kernel_rfl) ?_|(refine gD ?_;first|refine Ah rfl ?_)|fail)
  refine An (Am (l:=[(4,.c (.ptr 4 0))]) (b:=[(9100,.pin 100 (r 100)),(4,.box zUp.cs),(100,.box (wcs s (.d (hds s.held)) (.row 103 s.seen.length) slot c)),(103,.row 123 2 (rowOf Sn.enc s.seen))]) (fun n=>if n=103 then 102 else n) ?_ ?_ rfl (by(simp only[wfL,wfs,Ae,Ad];rfl))) (Ds Ab (.agg rfl rfl rfl rfl .nil) rfl (by repeat'(first|exact tt0|refine⟨rfl,?_⟩)))
  all_goals repeat'(first|exact tt0|refine⟨⟨_,rfl,?_⟩,?_⟩|exact .c (.ptr rfl)|exact .Bh rfl rfl|exact .pin rfl|exact .Bc rfl Ai|refine .box ?_|exact .nil|refine .cons ?_ ?_|exact .d|exact .row rfl rfl|fail)
 |true=>
  have hd:(!Td f s.tb.node)=false:=by rw[hfo];rfl
  by_cases h2:f.kind=2
  ·have e:Ch s f=(s,zUp):=AeT (.inr h2);have hd2:decide (f.kind=2)=true:=Aed h2;rw[e]
   repeat'(first|refine sB ?_|refine Aj rfl (by exact tt0) ?_|(refine gC ?_;first|refine Aa (FN f s.tb.node) (gk rfl) rfl rfl rfl (by rfl) rfl (by exact Aw) rfl ?_)|(refine gN ?_;first|refine Ak (gk rfl) rfl rfl ?_)|refine Az rfl (by assumption) ?_|refine Ap (by kernel_rfl) ?_|(refine gD ?_;first|refine Ah rfl ?_|refine At rfl (by assumption) ?_)|fail)
   refine An (Am (l:=[(4,.c (.ptr 4 0))]) (b:=[(9100,.pin 100 (r 100)),(4,.box zUp.cs),(100,.box (wcs s (.d (hds s.held)) (.row 103 s.seen.length) slot c)),(103,.row 123 2 (rowOf Sn.enc s.seen))]) (fun n=>if n=103 then 102 else n) ?_ ?_ rfl (by(simp only[wfL,wfs,Ae,Ad];rfl))) (Ds Ab (.agg rfl rfl rfl rfl .nil) rfl (by repeat'(first|exact tt0|refine⟨rfl,?_⟩)))
   all_goals repeat'(first|exact tt0|refine⟨⟨_,rfl,?_⟩,?_⟩|exact .c (.ptr rfl)|exact .Bh rfl rfl|exact .pin rfl|exact .Bc rfl Ai|refine .box ?_|exact .nil|refine .cons ?_ ?_|exact .d|exact .row rfl rfl|fail)
  have hd2:decide (f.kind=2)=false:=Aee h2;have e0:Ch s f=if f.kind=1 then(s,Ta f (Aan s f)) else if f.kind=4/\f.target=s.tb.node then({s with seen:=RQ s f},Ta f (Acs s f)) else(s,Ta f true):=by
   rw[Ch,AeS (by rintro(h|h);rw[hfo] at h;cases h;exact h2 h)]
  by_cases h1:f.kind=1
  ·have hd1:decide (f.kind=1)=true:=Aed h1;rw[AeT h1] at e0;rw[e0];have hho:=IC s slot c f.Ca;cases hf:Oa s.held f.Ca with
   |none=>
    have e1:Aan s f=true:=by rw[Aan,hf]
    rw[hf] at hho;have hho':FnS Tryz.prog 175 [wP s slot c,AI f.Ca] [] (AI (-1)) []:=hho;rw[e1]
    repeat'(first|refine sC ?_|refine Aj rfl (by exact tt0) ?_|(refine gC ?_;first|refine Aa (FN f s.tb.node) (gk rfl) rfl rfl rfl (by rfl) rfl (by exact Aw) rfl ?_|refine AJ [100,102] (hho') (gk rfl) rfl (by(repeat'(first|exact .nil|refine .cons ?_ ?_|exact .of0 (.c .d)|exact(KE (by simp) rfl .d (A9 (by simp) rfl rfl (fun _=>rfl)))))<;>fail) (by rfl) rfl (by rfl) rfl (by exact Aw) rfl ?_)|(refine gN ?_;first|refine Ak (gk rfl) rfl rfl ?_)|refine Az rfl (by assumption) ?_|refine Ap (by kernel_rfl) ?_|(refine gD ?_;first|refine Ah rfl ?_|refine Ag rfl ?_|refine At rfl (by assumption) ?_)|fail)
    refine An (Am (l:=[(4,.c (.ptr 4 0))]) (b:=[(9100,.pin 100 (r 100)),(4,.box (Ta f true).cs),(100,.box (wcs s (.d (hds s.held)) (.row 103 s.seen.length) slot c)),(103,.row 123 2 (rowOf Sn.enc s.seen))]) (fun n=>if n=103 then 102 else n) ?_ ?_ rfl (by(simp only[wfL,wfs,Ae,Ad];rfl))) (Ds Ab (.agg rfl rfl rfl rfl .nil) rfl (by repeat'(first|exact tt0|refine⟨rfl,?_⟩)))
    all_goals repeat'(first|exact tt0|refine⟨⟨_,rfl,?_⟩,?_⟩|exact .c (.ptr rfl)|exact .Bh rfl rfl|exact .pin rfl|exact .Bc rfl Ai|refine .box ?_|exact .nil|refine .cons ?_ ?_|exact .d|exact .row rfl rfl|fail)
   |some i=>
    have e1:Aan s f=decide ((s.held.getD i default).frame≠f.number):=by rw[Aan,hf]
    obtain⟨hi,_,_⟩:=BJ hf;rw[hf] at hho;have hho':FnS Tryz.prog 175 [wP s slot c,AI f.Ca] [] (AI (i:Nat)) []:=hho
    repeat'(first|refine sC ?_|refine Aj rfl (by exact tt0) ?_|(refine gC ?_;first|refine Aa (FN f s.tb.node) (gk rfl) rfl rfl rfl (by rfl) rfl (by exact Aw) rfl ?_|refine AJ [100,102] (hho') (gk rfl) rfl (by(repeat'(first|exact .nil|refine .cons ?_ ?_|exact .of0 (.c .d)|exact(KE (by simp) rfl .d (A9 (by simp) rfl rfl (fun _=>rfl)))))<;>fail) (by rfl) rfl (by rfl) rfl (by exact Aw) rfl ?_)|(refine gI ?_;first|refine Aq (gk rfl) rfl rfl rfl rfl rfl (by omega) rfl ?_)|(refine gN ?_;first|refine Ak (gk rfl) rfl rfl ?_)|refine Az rfl (by assumption) ?_|refine Ap (by kernel_rfl) ?_|(refine gD ?_;first|refine Ah rfl ?_|refine Ag rfl ?_|refine At rfl (by assumption) ?_)|fail)
    all_goals first
     |(exfalso;omega)
     |skip
    rw[e1];refine An (Am (l:=[(4,.c (.ptr 4 0))]) (b:=[(9100,.pin 100 (r 100)),(4,.box (Ta f (decide ((s.held.getD i default).frame≠f.number))).cs),(100,.box (wcs s (.d (hds s.held)) (.row 103 s.seen.length) slot c)),(103,.row 123 2 (rowOf Sn.enc s.seen))]) (fun n=>if n=103 then 102 else n) ?_ ?_ rfl (by(simp only[wfL,wfs,Ae,Ad];rfl))) (Ds Ab (.agg rfl rfl rfl rfl .nil) rfl (by repeat'(first|exact tt0|refine⟨rfl,?_⟩)))
    all_goals repeat'(first|exact tt0|refine⟨⟨_,rfl,?_⟩,?_⟩|exact .c (.ptr rfl)|exact .Bh rfl rfl|exact .pin rfl|exact .Bc rfl Ai|refine .box ?_|exact .nil|refine .cons ?_ ?_|exact .d|exact .row rfl rfl|fail)
  have hd1:decide (f.kind=1)=false:=Aee h1;rw[AeS h1] at e0;by_cases h4:f.kind=4/\f.target=s.tb.node
  ·have hd4:decide (f.kind=4)=true:=Aed h4.1;have hd5:decide (f.target=s.tb.node)=true:=Aed h4.2;rw[AeT h4] at e0;rw[e0];cases hfd:fdK Sn.node s.seen (HI f).node with
   |true=>
    have hlt:bsK Sn.node s.seen (HI f).node<s.seen.length:=by
     simp only[fdK,Aen,Aef] at hfd;exact hfd.1
    have e2:RQ s f=s.seen.set (bsK Sn.node s.seen (HI f).node) (HI f):=by rw[RQ,hud,AeT hfd]
    rw[e2]
    repeat'(first|refine sC ?_|refine Aj rfl (by exact tt0) ?_|(refine gC ?_;first|refine Aa (FN f s.tb.node) (gk rfl) rfl rfl rfl (by rfl) rfl (by exact Aw) rfl ?_|refine AJ [102] (Kq s.seen (HI f)) (gk rfl) rfl (by(repeat'(first|exact .nil|refine .cons ?_ ?_|exact .of0 (.c (A9 (by simp) rfl (by rfl) (fun _=>rfl)))|refine .of0 (.agg ?_)|exact .d))<;>fail) (by rfl) rfl (by rfl) rfl (by exact Aw) rfl ?_|refine AJ [102] (HK s.seen (HI f) (by omega)) (gk rfl) rfl (by(repeat'(first|exact .nil|refine .cons ?_ ?_|exact(Lw)|exact .of0 (.c (A9 (by simp) rfl (by rfl) (fun _=>rfl)))|refine .of0 (.agg ?_)|exact .d))<;>fail) (by rfl) rfl (by rfl) rfl (by exact Aw) rfl ?_)|(refine gI ?_;first|refine BF (gk rfl) rfl rfl rfl rfl rfl rfl (by omega) (by omega) rfl ?_)|(refine gN ?_;first|refine Ak (gk rfl) rfl rfl ?_)|(refine gS ?_;first|refine By (gk rfl) rfl rfl rfl (by omega) rfl rfl rfl ?_)|refine Az rfl (by assumption) ?_|refine Ap (by kernel_rfl) ?_|(refine gD ?_;first|refine Ah rfl ?_|refine Ag rfl ?_|refine At rfl (by assumption) ?_)|fail)
    refine An (Am (l:=[(4,.c (.ptr 4 0))]) (b:=[(9100,.pin 100 (r 100)),(4,.box (Ta f (Acs s f)).cs),(100,.box (wcs {s with seen:=s.seen.set (bsK Sn.node s.seen (HI f).node) (HI f)} (.d (hds s.held)) (.row 103 (s.seen.set (bsK Sn.node s.seen (HI f).node) (HI f)).length) slot c)),(103,.row 123 2 (rowOf Sn.enc (s.seen.set (bsK Sn.node s.seen (HI f).node) (HI f))))]) (fun n=>if n=103 then 102 else n) ?_ ?_ rfl (by(simp only[wfL,wfs,Ae,Ad];rfl))) (Ds Ab (.agg rfl rfl rfl rfl .nil) rfl (by repeat'(first|exact tt0|refine⟨rfl,?_⟩)))
    all_goals repeat'(first|exact tt0|refine⟨⟨_,rfl,?_⟩,?_⟩|exact .c (.ptr rfl)|exact .Bh rfl rfl|exact .pin rfl|exact .Bc (Dx rfl) Ai|refine .box ?_|exact .nil|refine .cons ?_ ?_|exact .d|(refine .row rfl ?_;((try dsimp only);first|(simp only[lns]<;>omega));done)|fail)
   |false=>
    have e2:RQ s f=Bp s.seen (bsK Sn.node s.seen (HI f).node) (HI f):=by rw[RQ,hud,AeS (by rw[hfd];simp)]
    have hil:(Bp s.seen (bsK Sn.node s.seen (HI f).node) (HI f)).length=s.seen.length+1:=by simp[Bp];omega
    rw[e2]
    repeat'(first|refine sC ?_|refine Aj rfl (by exact tt0) ?_|(refine gC ?_;first|refine Aa (FN f s.tb.node) (gk rfl) rfl rfl rfl (by rfl) rfl (by exact Aw) rfl ?_|refine AJ [102] (Kq s.seen (HI f)) (gk rfl) rfl (by(repeat'(first|exact .nil|refine .cons ?_ ?_|exact .of0 (.c (A9 (by simp) rfl (by rfl) (fun _=>rfl)))|refine .of0 (.agg ?_)|exact .d))<;>fail) (by rfl) rfl (by rfl) rfl (by exact Aw) rfl ?_|refine AJ [102] (HK s.seen (HI f) (by omega)) (gk rfl) rfl (by(repeat'(first|exact .nil|refine .cons ?_ ?_|exact(Lw)|exact .of0 (.c (A9 (by simp) rfl (by rfl) (fun _=>rfl)))|refine .of0 (.agg ?_)|exact .d))<;>fail) (by rfl) rfl (by rfl) rfl (by exact Aw) rfl ?_|refine Cw [108] (Uz s.seen (bsK Sn.node s.seen (HI f).node) (HI f) (by omega) hbs') (gk rfl) rfl rfl Ai rfl (by(repeat'(first|exact .nil|refine .cons ?_ ?_|exact .of0 (.c .d)|exact .of0 (.c (H4 (by decide) rfl rfl (by repeat'(first|exact tt0|refine⟨?_,?_⟩|rfl))))))<;>fail) rfl (by exact KX (fun _=>rfl)) rfl (by(simp only[AZ,wfL,AH,wfs,Ae,Ad];rfl)) rfl (by exact B2) rfl ?_)|(refine gN ?_;first|refine Ak (gk rfl) rfl rfl ?_)|refine Az rfl (by assumption) ?_|refine Ap (by kernel_rfl) ?_|(refine gD ?_;first|refine Ah rfl ?_|refine Ag rfl ?_|refine At rfl (by assumption) ?_)|fail)
    rw[hil];refine An (Am (l:=[(4,.c (.ptr 4 0))]) (b:=[(9100,.pin 100 (r 100)),(4,.box (Ta f (Acs s f)).cs),(100,.box (wcs {s with seen:=Bp s.seen (bsK Sn.node s.seen (HI f).node) (HI f)} (.d (hds s.held)) (.row 103 (s.seen.length+1)) slot c)),(103,.row 123 2 (rowOf Sn.enc (Bp s.seen (bsK Sn.node s.seen (HI f).node) (HI f))))]) (fun n=>if n=103 then 109001 else n) ?_ ?_ rfl (by(simp only[wfL,wfs,Ae,Ad];rfl))) (Ds Ab (.agg rfl rfl rfl rfl .nil) rfl (by repeat'(first|exact tt0|refine⟨rfl,?_⟩)))
    all_goals repeat'(first|exact tt0|refine⟨⟨_,rfl,?_⟩,?_⟩|exact .c (.ptr rfl)|exact .Bh rfl rfl|exact .pin rfl|exact .Bc rfl Ai|refine .box ?_|exact .nil|refine .cons ?_ ?_|exact .d|exact .row rfl rfl|fail)
  ·rw[AeS h4] at e0;rw[e0]
   repeat'(first|refine sC ?_|refine Aj rfl (by exact tt0) ?_|(refine gC ?_;first|refine Aa (FN f s.tb.node) (gk rfl) rfl rfl rfl (by rfl) rfl (by exact Aw) rfl ?_)|(refine gN ?_;first|refine Ak (gk rfl) rfl rfl ?_)|refine Az rfl (by assumption) ?_|(refine Ax rfl ?_ ?_<;>intro h<;>have hq:=h<;>(try simp only[hqs] at hq))|refine Ap (by kernel_rfl) ?_|(refine gD ?_;first|refine Ag rfl ?_|refine At rfl (by assumption) ?_|(refine Ay rfl ?_ ?_<;>intro h<;>have hq:=h<;>(try simp only[hqs] at hq)))|fail)
   all_goals first
    |(exfalso;omega)
    |skip
   ·refine An (Am (l:=[(4,.c (.ptr 4 0))]) (b:=[(9100,.pin 100 (r 100)),(4,.box (Ta f true).cs),(100,.box (wcs s (.d (hds s.held)) (.row 103 s.seen.length) slot c)),(103,.row 123 2 (rowOf Sn.enc s.seen))]) (fun n=>if n=103 then 102 else n) ?_ ?_ rfl (by(simp only[wfL,wfs,Ae,Ad];rfl))) (Ds Ab (.agg rfl rfl rfl rfl .nil) rfl (by repeat'(first|exact tt0|refine⟨rfl,?_⟩)))
    all_goals repeat'(first|exact tt0|refine⟨⟨_,rfl,?_⟩,?_⟩|exact .c (.ptr rfl)|exact .Bh rfl rfl|exact .pin rfl|exact .Bc rfl Ai|refine .box ?_|exact .nil|refine .cons ?_ ?_|exact .d|exact .row rfl rfl|fail)
   ·refine An (Am (l:=[(4,.c (.ptr 4 0))]) (b:=[(9100,.pin 100 (r 100)),(4,.box (Ta f true).cs),(100,.box (wcs s (.d (hds s.held)) (.row 103 s.seen.length) slot c)),(103,.row 123 2 (rowOf Sn.enc s.seen))]) (fun n=>if n=103 then 102 else n) ?_ ?_ rfl (by(simp only[wfL,wfs,Ae,Ad];rfl))) (Ds Ab (.agg rfl rfl rfl rfl .nil) rfl (by repeat'(first|exact tt0|refine⟨rfl,?_⟩)))
    all_goals repeat'(first|exact tt0|refine⟨⟨_,rfl,?_⟩,?_⟩|exact .c (.ptr rfl)|exact .Bh rfl rfl|exact .pin rfl|exact .Bc rfl Ai|refine .box ?_|exact .nil|refine .cons ?_ ?_|exact .d|exact .row rfl rfl|fail)
end Go.Proofs
end
