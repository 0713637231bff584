/-
  Functions' results, and laws on them. No condition.
-/
import Derived.Test.YtdlcbilgemnomaaGreatSxMap
import Derived.Test.YtdlcbilgemnomaaGreatSxMaq
set_option linter.unusedSimpArgs false
set_option linter.unusedVariables false
set_option maxRecDepth 4000
set_option maxHeartbeats 16000000
open Go.Proofs.Tryz
namespace Go.Proofs.R
open Go Go.Sx Go.Proofs.P
attribute [local irreducible] VR VC thenQ blockQ retL
theorem Ys (r:Rk):Ak 141 [rkA r] (.tup [rkA (advM r).1,AI (advM r).2.1,AI (advM r).2.2.1,AI (advM r).2.2.2]):=by
 refine Ao func141 ntmps141 results141 fun E hS=>?_
 repeat'(first|refine Ad ?_|refine Aa (P.Db r) ?_|(refine Av ?_ ?_<;>intro h hq)|fail)
 all_goals refine L8 Ae rfl rfl rfl rfl rfl rfl rfl ?_ ?_ ?_ ?_
 all_goals unfold advM
 all_goals repeat' split
 all_goals first|rfl|(exfalso;simp_all;done)|(exfalso;omega)|trace_state
end Go.Proofs.R
namespace Go.Proofs.M
open Go Go.Sx Go.Proofs Go.Proofs.T Go.Proofs.Q
open Go.Proofs.P (Nb nbs Rk rkA rkErr checkNb hearM countM forgetM select')
open Go.Proofs.R (startM advM)
attribute [local irreducible] VR VC thenQ blockQ retL
theorem Ad6 (x:MN) (slot:Int) (data:ByteArray):∃(s2:Sta) (l:List Pk) (e:Int),Ak 140 [stA x.st,pkA ⟨x.next,x.rk.parent,1,slot,256,data⟩] (.tup [stA s2,AD (pks l),AI e]) /\
  G8 slot x data=if x.rk.parent<0 then x else if e=0 then{x with st:=s2,next:=(x.next+1) % 65536} else x:=⟨_,_,_,Tl _ _,rfl⟩
theorem NZ (x:MN) (slot:Int) (data:ByteArray) (hx:0<=x.next/\x.next<=65535):Ak 96 [mnA x,AI slot,AD (.str data)] (mnA (G8 slot x data)):=by
 obtain⟨s2,l,e,hp,hg⟩:=Ad6 x slot data;rw[hg];clear hg;refine Ao func96 ntmps96 results96 fun E hS=>?_
 refine AG ?_;by_cases h1:x.rk.parent<0
 ·have d1:=Aju h1;rw[Akc h1]
  repeat'(first|refine Ad ?_|fail)
  exact Ag (Al (l:=[(6,.c (.ptr 6 0))]) (b:=[(6,.box x.cs)])) Ay
 ·have d1:=Ajv h1;rw[Akb h1];by_cases h2:e=0
  ·subst h2;rw[Akc rfl]
   repeat'(first|refine Ad ?_|refine Aa (hp) ?_|fail)
   exact Ag (Al (l:=[(6,.c (.ptr 6 0))]) (b:=[(6,.box (MN.cs {x with st:=s2,next:=(x.next+1) % 65536}))])) Ay
  ·have d2:decide (e≠0)=true:=Aju h2;rw[Akb h2]
   repeat'(first|refine Ad ?_|refine Aa (hp) ?_|fail)
   exact Ag (Al (l:=[(6,.c (.ptr 6 0))]) (b:=[(6,.box x.cs)])) Ay
def Rp (t:Tb) (q:Int):Nat->Bool
 |0=>false
 |k+1=>Rp t q k||(decide ((t.cells.getD k default).kind=3)&&decide ((t.cells.getD k default).slot=q))
theorem Ro (t:Tb) (q:Int):∀k,Rp t q k=true↔∃i,i<k/\(t.cells.getD i default).kind=3/\(t.cells.getD i default).slot=q
 |0=>by
  constructor
  ·intro h;cases h
  ·rintro⟨i,hi,_⟩;exact absurd hi (Aj9 _)
 |k+1=>by
  show(Rp t q k||(decide ((t.cells.getD k default).kind=3)&&decide ((t.cells.getD k default).slot=q)))=true↔_;rw[Aks,Ro t q k,AjE,Ajw,Ajw];constructor
  ·rintro(⟨i,hi,h⟩|h)
   ·exact⟨i,by omega,h⟩
   ·exact⟨k,by omega,h⟩
  ·rintro⟨i,hi,h⟩;by_cases e:i=k
   ·subst e;exact .inr h
   ·exact .inl ⟨i,by omega,h⟩
theorem Zo (t:Tb) (q:Int):Rp t q t.cells.length=MD t q:=by
 rw[Bool.eq_iff_iff,Ro,Ps]
theorem Wb (t:Tb) (slot turns:Int) (hs:slot<=109951162):Ak 192 [tbA t,AI slot,AI turns] (.tup [AI (Eb t slot turns).1,AB (Eb t slot turns).2]):=by
 have hck:=Fo t;refine Ao func192 ntmps192 results192 fun E hS=>?_
 by_cases hc:BV t=0
 ·have dc:decide (BV t≠0)=false:=Ajv (fun h=>h hc);by_cases hr:slot<0\/turns<1\/32<turns
  ·have e:Eb t slot turns=(0,false):=by unfold Eb;rw[Akc (.inr hr)]
   rw[e]
   repeat'(first|refine Af ?_|refine Aa (hck) ?_|(refine Av ?_ ?_<;>intro h hq)|fail)
   all_goals first
    |exact Bg
    |(exfalso;omega)
  ·have f1:=Cc (slot<0);have f2:=Cc (turns<1);have f3:=Cc (32<turns);have hl:=B4 hc;have hln:t.len≠0:=by omega
   obtain⟨q,hq0⟩:∃q,q=slot % t.len:=⟨_,rfl⟩
   repeat'(first|refine Af ?_|refine Aa (hck) ?_|fail)
   refine Er t.cells.length (fun k=>AN [(1,AI slot),(2,AI turns),(3,.c (.ptr 3 0)),(6,AI 0),(7,AB false),(8,AI (Xl t k)),(9,AI (SA t q k)),(10,AB (Rp t q k)),(11,AI k)] [(3,.box t.cs)]) ?_ ?_
   ·exact Al
   ·intro k hk;have hcl:=Uj t k;have hbl:=Aal t q k;by_cases hk2:k<t.cells.length
    ·have hdd:=Cz k t.cells.length;have hs1:=RT hk2;have hs2:=Nd (q:=q) hk2;have hs3:Rp t q (k+1)=(Rp t q k||(decide ((t.cells.getD k default).kind=3)&&decide ((t.cells.getD k default).slot=q))):=rfl;by_cases h3:(t.cells.getD k default).kind=3
     ·have d3:decide ((t.cells.getD k default).kind≠3)=false:=Ajv (fun h=>h h3);rw[Akc h3] at hs1;rw[Aju h3,AkZ] at hs3;by_cases h4:(t.cells.getD k default).slot<q
      ·have d4:decide ((t.cells.getD k default).slot<slot % t.len)=true:=Aju (by rw[<-hq0];exact h4);have d5:decide ((t.cells.getD k default).slot=slot % t.len)=false:=Ajv (by rw[<-hq0];omega);rw[Akc ⟨h3,h4⟩] at hs2;rw[Ajv (show ¬(t.cells.getD k default).slot=q by omega),AkK] at hs3
       repeat'(first|refine Af ?_|fail)
       refine BU (k+1) ?_;rw[hs1,hs2,hs3];exact Al
      ·have d4:decide ((t.cells.getD k default).slot<slot % t.len)=false:=Ajv (by rw[<-hq0];exact h4);rw[Akb (fun h=>h4 h.2)] at hs2;by_cases h5:(t.cells.getD k default).slot=q
       ·have d5:decide ((t.cells.getD k default).slot=slot % t.len)=true:=Aju (by rw[<-hq0];exact h5);rw[Aju h5,Bool.or_true] at hs3
        repeat'(first|refine Af ?_|fail)
        refine BU (k+1) ?_;rw[hs1,hs2,hs3];exact Al
       ·have d5:decide ((t.cells.getD k default).slot=slot % t.len)=false:=Ajv (by rw[<-hq0];exact h5);rw[Ajv h5,AkK] at hs3
        repeat'(first|refine Af ?_|fail)
        refine BU (k+1) ?_;rw[hs1,hs2,hs3];exact Al
     ·have d3:decide ((t.cells.getD k default).kind≠3)=true:=Aju h3;rw[Akb h3] at hs1;rw[Akb (fun h=>h3 h.1)] at hs2;rw[Ajv h3,Bool.false_and,AkK] at hs3
      repeat'(first|refine Af ?_|fail)
      refine BU (k+1) ?_;rw[hs1,hs2,hs3];exact Al
    ·have hdd:=CM k t.cells.length;have hkl:k=t.cells.length:=by omega
     have e1:Xl t k=(Co t).length:=by unfold Xl Co;rw[Aj1 (by omega)]
     have e2:SA t q k=Fc t q:=by unfold SA Fc Co;rw[Aj1 (by omega)]
     have e3:Rp t q k=MD t q:=by rw[hkl,Zo]
     rw[e1,e2,e3];cases hh:MD t q with
     |false=>
      have e:Eb t slot turns=(0,false):=by unfold Eb;rw[Akb (by omega),<-hq0,Akc hh]
      rw[e]
      repeat'(first|refine Ad ?_|fail)
      exact Bg
     |true=>
      have e:Eb t slot turns=((slot/t.len % turns*(Co t).length+Fc t q) % turns,true):=by unfold Eb;rw[Akb (by omega),<-hq0,Akb (by rw[hh];simp)]
      have hbf:=R7 t q;have hcn:(Co t).length<=512:=by
       have:=Aj4 (fun c:TC=>decide (c.kind=3)) t.cells;unfold Co;omega
      have q1:0<=slot/t.len:=Int.ediv_nonneg (by omega) (by omega);have q2:0<=slot/t.len % turns:=Int.emod_nonneg _ (by omega);have q3:slot/t.len % turns<turns:=Int.emod_lt_of_pos _ (by omega);have q4:0<=slot/t.len % turns*((Co t).length:Int):=Int.mul_nonneg q2 (by omega);have q5:slot/t.len % turns*((Co t).length:Int)<=32*512:=Int.mul_le_mul (by omega) (by omega) (by omega) (by omega);have q6:slot/t.len<=slot:=Int.ediv_le_self _ (by omega);have q7:turns≠0:=by omega
      rw[e]
      repeat'(first|refine Ad ?_|fail)
      exact Bg
 ·have dc:decide (BV t≠0)=true:=Aju hc;have e:Eb t slot turns=(0,false):=by unfold Eb;rw[Akc (.inl hc)]
  rw[e]
  repeat'(first|refine Ad ?_|refine Aa (hck) ?_|fail)
  exact Bg
theorem Yp (t:Tb) (slot turns:Int) (hs:slot<=109951162):Ak 142 [tbA t,AI slot,AI turns] (AB (K5 t slot turns)):=by
 have ha:=QM t slot;have ht:=Wb t slot turns hs;refine Ao func142 ntmps142 results142 fun E hS=>?_
 cases h1:(atM t slot).2 with
 |false=>
  have e:K5 t slot turns=false:=by unfold K5;rw[h1];rfl
  rw[h1] at ha;rw[e]
  repeat'(first|refine Ad ?_|refine Aa (ha) ?_|refine Aa (ht) ?_|(refine Av ?_ ?_<;>intro h hq)|fail)
  all_goals exact AO
 |true=>
  rw[h1] at ha;cases h2:(Eb t slot turns).2 with
  |false=>
   have e:K5 t slot turns=false:=by unfold K5;rw[h1,h2];rfl
   rw[h2] at ht;rw[e]
   repeat'(first|refine Ad ?_|refine Aa (ha) ?_|refine Aa (ht) ?_|fail)
   exact AO
  |true=>
   rw[h2] at ht;by_cases h3:(atM t slot).1.kind=3
   ·have d3:=Aju h3;have e:K5 t slot turns=decide ((Eb t slot turns).1=t.node % turns):=by unfold K5;rw[h1,h2,d3];rfl
    have hr:BV t=0/\1<=turns:=by
     unfold Eb at h2
     split at h2
     ·cases h2
     ·omega
    have hn:=(B4 hr.1).2.2.2;have hn:0<=t.node/\t.node<32:=AjT hn;rw[e]
    repeat'(first|refine Ad ?_|refine Aa (ha) ?_|refine Aa (ht) ?_|fail)
    exact AO
   ·have d3:=Ajv h3;have e:K5 t slot turns=false:=by unfold K5;rw[h1,h2,d3];rfl
    rw[e]
    repeat'(first|refine Ad ?_|refine Aa (ha) ?_|refine Aa (ht) ?_|fail)
    exact AO
def Aep (t:Tb) (q:Int):Int:=match t.cells.find? (fun c=>decide (c.kind=3)&&decide (c.slot=q)) with
 |some c=>c.offset
 |none=>0
theorem It {l:List TC} {p:TC->Bool}:∀{k:Nat},k<l.length->(∀i,i<k->p (l.getD i default)=false)->p (l.getD k default)=true->l.find? p=some (l.getD k default):=by
 induction l with
 |nil=>intro k hk;cases hk
 |cons x l ih=>
  intro k hk h1 h2;cases k with
  |zero=>
   have h2:p x=true:=h2;rw[List.find?_cons_of_pos h2];rfl
  |succ k=>
   have h0:p x=false:=h1 0 (by omega);rw[List.find?_cons_of_neg (by rw[h0];exact Aj6)];exact ih (by simpa using hk) (fun i hi=>h1 (i+1) (by omega)) h2
theorem ZJ {l:List TC} {p:TC->Bool} (h:∀i,i<l.length->p (l.getD i default)=false):l.find? p=none:=by
 rw[List.find?_eq_none];intro x hx;obtain⟨i,hi,rfl⟩:=CI hx;rw[h i hi];exact Aj6
theorem QD (t:Tb) (slot:Int) (h0:0<=slot) (hl:1<=t.len) (hcl:t.cells.length<=100000):Ak 144 [tbA t,AI slot] (AI (Aep t (slot % t.len))):=by
 have hln:t.len≠0:=by omega
 refine Ao func144 ntmps144 results144 fun E hS=>?_
 repeat'(first|refine Af ?_|fail)
 refine Ax (ι:=Nat) (fun k=>AN [(1,AI slot),(2,.c (.ptr 2 0)),(4,AI 0),(5,AI k)] [(2,.box t.cs)]) (fun k=>k<=t.cells.length/\∀i,i<k->(decide ((t.cells.getD i default).kind=3)&&decide ((t.cells.getD i default).slot=slot % t.len))=false) (fun k=>t.cells.length-k) 0 ⟨Ake _,fun i hi=>absurd hi (Aj9 _)⟩ ?_ ?_
 ·exact Al
 ·rintro k ⟨hk,hall⟩;by_cases hc:k<t.cells.length
  ·have hd:=Cz k t.cells.length;have hnext:(decide ((t.cells.getD k default).kind=3)&&decide ((t.cells.getD k default).slot=slot % t.len))=false->∀i,i<k+1->(decide ((t.cells.getD i default).kind=3)&&decide ((t.cells.getD i default).slot=slot % t.len))=false:=fun h i hi=>by
    by_cases h2:i<k
    ·exact hall i h2
    ·have:i=k:=by omega
     subst this;exact h
   by_cases h3:(t.cells.getD k default).kind=3
   ·have d3:=Aju h3;by_cases h4:(t.cells.getD k default).slot=slot % t.len
    ·have d4:=Aju h4;have e:Aep t (slot % t.len)=(t.cells.getD k default).offset:=by
      unfold Aep;rw[It hc hall (by rw[d3,d4];rfl)]
     rw[e];clear hall hnext
     repeat'(first|refine Af ?_|fail)
     exact AZ
    ·have d4:=Ajv h4;have hn2:=hnext (by rw[d4,Ak4]);clear hall hnext
     repeat'(first|refine Af ?_|fail)
     refine⟨k+1,⟨by omega,hn2⟩,by omega,?_⟩;exact Al
   ·have d3:=Ajv h3;have hn2:=hnext (by rw[d3,Bool.false_and]);clear hall hnext
    repeat'(first|refine Af ?_|fail)
    refine⟨k+1,⟨by omega,hn2⟩,by omega,?_⟩;exact Al
  ·have hd:=CM k t.cells.length;have e:Aep t (slot % t.len)=0:=by
    unfold Aep;rw[ZJ fun i hi=>hall i (by omega)]
   rw[e];clear hall
   repeat'(first|refine Ad ?_|fail)
   exact AZ
end Go.Proofs.M
namespace Go.Proofs
open Go Go.Sx Go.Proofs.T Go.Proofs.Q
attribute [local irreducible] VR VC thenQ blockQ retL
theorem YP:FnS Tryz.prog 260 [] [] (.c (.ptr 100 0)) [(100,.box [.row 101 0,.d (.int .i64 0)]),(101,.row 5 1 (rowOf EC []))]:=by
 refine Ao func260 ntmps260 results260 fun E hS=>?_
 refine AG ?_
 repeat'(first|refine Ad ?_|fail)
 refine GR (Gf (bx:=2) (nm:=101) (T:=5) (sz:=1) (j:=0) rfl rfl rfl) ?_;exact Ag (BF (l:=[(0,.c (.ptr 100 0))]) (b:=[(100,.box [.row 101 0,.d (.int .i64 0)]),(101,.row 5 1 (rowOf EC []))]) (fun n=>if n=100 then 2 else n)) (Jr Ae (.tmp rfl rfl .nil) rfl (by repeat'(first|exact tt0|refine⟨rfl,?_⟩)))
theorem L5 (l:List Int) (n:Int) (hl:0<=n/\(l.length:Int)+n<=4000):FnW Tryz.prog 297 [.c (.ptr 100 0),AI n] [(100,.box [.row 101 l.length,.d (.int .i64 0)]),(101,.row 5 1 (rowOf EC l))] [100,101] (AB true) [(100,.box [.row 101 l.length,.d (.int .i64 0)]),(101,.row 5 1 (rowOf EC l))]:=by
 have d1:=Cc (524288<(l.length:Int)+n);intro r;simp only[Ch,Akq,Aku,Akt,Akp,Nat.reduceAdd];refine FnS.Bv (enters_of func297 (by kernel_rfl) rfl) func297 rfl ntmps297 results297 rfl (by first|rfl|(simp only[BC,wfL,Bj,wfs,AA,Az];rfl)) rfl fun E=>?_
 refine AG ?_
 repeat'(first|refine Ad ?_|refine AQ ?_|fail)
 all_goals try (exfalso;omega)
 exact Ag (Al (l:=[(4,AB true)]) (b:=[(9100,.pin 100 (r 100)),(9101,.pin 101 (r 101)),(100,.box [.row 101 l.length,.d (.int .i64 0)]),(101,.row 5 1 (rowOf EC l))])) (Jr Ae (.tmp rfl rfl .nil) rfl (by repeat'(first|exact tt0|refine⟨rfl,?_⟩)))
noncomputable def K6 (w n:Int) (k:Nat):List Int:=(List.range k).map fun j:Nat=>IntKind.u8.wrap (Ur .and .i64 (n/2^(w-1-(j:Int)).toNat) 1)
theorem R5 (w n:Int) (k:Nat):(K6 w n k).length=k:=by simp[K6]
theorem Xr (w n:Int) (k:Nat):K6 w n (k+1)=K6 w n k++[IntKind.u8.wrap (Ur .and .i64 (n/2^(w-1-(k:Int)).toNat) 1)]:=by
 simp[K6,AkN]
noncomputable def Tt (l:List Int) (w n:Int):List Int:=l++K6 w n w.toNat
theorem O9 (l:List Int) (w n:Int):(Tt l w n).length=l.length+w.toNat:=by rw[Tt,Ajy,R5]
theorem GY (l:List Int) (w n:Int) (hw:0<=w/\w<=63) (hl:l.length<=4000):FnW Tryz.prog 298 [.c (.ptr 100 0),AI w,AI n] [(100,.box [.row 101 l.length,.d (.int .i64 0)]),(101,.row 5 1 (rowOf EC l))] [100] (.tup []) [(100,.box [.row 102 (Tt l w n).length,.d (.int .i64 0)]),(102,.row 5 1 (rowOf EC (Tt l w n)))]:=by
 intro r;simp only[Ch,Akq,Aku,Akt,Akp,Nat.reduceAdd];refine FnS.Bv (enters_of func298 (by kernel_rfl) rfl) func298 rfl ntmps298 results298 rfl (by first|rfl|(simp only[BC,wfL,Bj,wfs,AA,Az];rfl)) rfl fun E=>?_
 refine AG ?_
 repeat'(first|refine Af ?_|fail)
 refine Er w.toNat (fun k=>AN [(0,.c (.ptr 100 0)),(1,AI w),(2,AI n),(6,AI (w-1-(k:Int)))] [(9100,.pin 100 (r 100)),(100,.box [.row 101 (l++K6 w n k).length,.d (.int .i64 0)]),(101,.row 5 1 (rowOf EC (l++K6 w n k)))]) ?_ ?_
 ·rw[show K6 w n 0=[] from rfl,AjQ,show w-1-((0:Nat):Int)=w-1 by omega];exact Al
 ·intro k hk;have hlen:(l++K6 w n k).length=l.length+k:=by rw[Ajy,R5]
  rcases Akf k w.toNat with hlt|hge
  ·have dlt:=Es (0<=w-1-(k:Int))
   repeat'(first|refine Af ?_|refine Ap ?_|refine C3 (gk rfl) rfl ⟨_,rfl⟩ rfl rfl ?_|refine IZ (gk rfl) rfl rfl (by omega) (by first|(show _<=64;omega)|(show _<=8;omega)) rfl ?_|refine LN (gk rfl) rfl rfl rfl rfl rfl ?_|fail)
   refine BU (k+1) ?_;rw[show w-1-((k+1:Nat):Int)=w-1-(k:Int)-1 by omega,Xr,<-AjP];exact BF (fun n=>if n=101 then 24 else n)
  ·have dlt:=Cc (0<=w-1-(k:Int));have hk':k=w.toNat:=by omega
   subst hk'
   repeat'(first|refine Ad ?_|fail)
   exact K7 (fun n=>if n=102 then 101 else n)
theorem Yz {w:Int} (h:1<=w/\w<=62):1*(2:Int)^w.toNat<=9223372036854775807/\-9223372036854775808<=1*(2:Int)^w.toNat:=by
 have h1:(2:Int)^w.toNat<=2^62:=by
  have:=Nat.pow_le_pow_right (n:=2) (by decide) (show w.toNat<=62 by omega);have e:((2^w.toNat:Nat):Int)=(2:Int)^w.toNat:=by simp
  rw[<-e];exact_mod_cast this
 have h2:(1:Int)<=2^w.toNat:=Abn _;omega
theorem OQ (l:List Int) (w n:Int) (hw:1<=w/\w<=62) (hn:0<=n/\n<2^w.toNat) (hl:(l.length:Int)+w<=4000):FnW Tryz.prog 261 [.c (.ptr 100 0),AI w,AI n] [(100,.box [.row 101 l.length,.d (.int .i64 0)]),(101,.row 5 1 (rowOf EC l))] [100] (.tup []) [(100,.box [.row 102 (Tt l w n).length,.d (.int .i64 0)]),(102,.row 5 1 (rowOf EC (Tt l w n)))]:=by
 have hp:=Yz hw;have d1:=Cc (1*(2:Int)^w.toNat<=n);have hw63:w<63:=by omega
 have hr:=L5 l w (by omega);have hpt:=GY l w n (by omega) (by omega);intro r;simp only[Ch,Akq,Aku,Akt,Akp,Nat.reduceAdd];refine FnS.Bv (enters_of func261 (by kernel_rfl) rfl) func261 rfl ntmps261 results261 rfl (by first|rfl|(simp only[BC,wfL,Bj,wfs,AA,Az];rfl)) rfl fun E=>?_
 refine AG ?_
 repeat'(first|refine Ad ?_|refine A1 (nmL []) [] [100,101] (hr) ?_|refine A1 (nmL []) [] [100] (hpt) ?_|refine LI (gk rfl) rfl rfl (by omega) rfl (by omega) ?_|(refine Av ?_ ?_<;>intro h hq)|fail)
 all_goals try (exfalso;omega)
 exact K7 (fun n=>if n=102 then 41102 else n)
def MQ (l:List Int) (b:Bool):List Int:=l++[if b=true then 1 else 0]
theorem MP (l:List Int) (b:Bool):(MQ l b).length=l.length+1:=by rw[MQ,Ajy];rfl
theorem RD (l:List Int) (b:Bool) (hl:(l.length:Int)<=3000):FnW Tryz.prog 262 [.c (.ptr 100 0),AB b] [(100,.box [.row 101 l.length,.d (.int .i64 0)]),(101,.row 5 1 (rowOf EC l))] [100] (.tup []) [(100,.box [.row 102 (MQ l b).length,.d (.int .i64 0)]),(102,.row 5 1 (rowOf EC (MQ l b)))]:=by
 have hr:=L5 l 1 (by omega);have hlen:=MP l b;intro r;simp only[Ch,Akq,Aku,Akt,Akp,Nat.reduceAdd];refine FnS.Bv (enters_of func262 (by kernel_rfl) rfl) func262 rfl ntmps262 results262 rfl (by first|rfl|(simp only[BC,wfL,Bj,wfs,AA,Az];rfl)) rfl fun E=>?_
 refine AG ?_;cases b with
 |true=>
  rw[show MQ l true=l++[1] from rfl] at hlen ⊢
  repeat'(first|refine Ad ?_|refine A1 (nmL []) [] [100,101] (hr) ?_|refine Ap ?_|fail)
  exact K7 (fun n=>if n=102 then 14 else n)
 |false=>
  rw[show MQ l false=l++[0] from rfl] at hlen ⊢
  repeat'(first|refine Ad ?_|refine A1 (nmL []) [] [100,101] (hr) ?_|refine Ap ?_|fail)
  exact K7 (fun n=>if n=102 then 23 else n)
noncomputable def U5 (l:List Int):Nat->List Int
 |0=>List.replicate ((l.length+7)/8) 0
 |k+1=>(U5 l k).set (k/8) (Ur .or .u8 ((U5 l k).getD (k/8) default) (IntKind.u8.wrap (l.getD k default*2^(7-(k:Int) % 8).toNat)))
theorem Lp (l:List Int):∀k,(U5 l k).length=(l.length+7)/8
 |0=>by rw[U5,AjH]
 |k+1=>by rw[U5,AjJ,Lp l k]
theorem SD (l:List Int) (hl:l.length<=2000):FnW Tryz.prog 265 [.c (.ptr 100 0)] [(100,.box [.row 101 l.length,.d (.int .i64 0)]),(101,.row 5 1 (rowOf EC l))] [100,101] (.tup [AD (.str (mkS (U5 l l.length))),AI 0]) [(100,.box [.row 101 l.length,.d (.int .i64 0)]),(101,.row 5 1 (rowOf EC l))]:=by
 intro r;simp only[Ch,Akq,Aku,Akt,Akp,Nat.reduceAdd];refine FnS.Bv (enters_of func265 (by kernel_rfl) rfl) func265 rfl ntmps265 results265 rfl (by first|rfl|(simp only[BC,wfL,Bj,wfs,AA,Az];rfl)) rfl fun E=>?_
 refine AG ?_
 repeat'(first|refine Af ?_|refine AQ ?_|refine AaK (gk rfl) rfl rfl rfl rfl rfl (by omega) rfl (by omega) rfl rfl ?_|fail)
 have e1:(((l.length:Int)+7)/8).toNat=(l.length+7)/8:=by omega
 refine Er l.length (fun k=>AN [(0,.c (.ptr 100 0)),(4,.c (.row 22 (U5 l k).length)),(5,AI k)] [(9100,.pin 100 (r 100)),(9101,.pin 101 (r 101)),(100,.box [.row 101 l.length,.d (.int .i64 0)]),(101,.row 5 1 (rowOf EC l)),(22,.row 5 1 (rowOf EC (U5 l k)))]) ?_ ?_
 ·rw[Lp,<-e1,show U5 l 0=List.replicate (((l.length:Int)+7)/8).toNat 0 by rw[e1];rfl];exact Al
 ·intro k hk;have hol:=Lp l k;have hol1:=Lp l (k+1);rcases Akf k l.length with hlt|hge
  ·have dlt:=Cz k l.length
   repeat'(first|refine Af ?_|refine LH (gk rfl) rfl rfl (by omega) (by first|decide|(show _<=8;omega)|(show _<=16;omega)) rfl rfl ?_|refine AS ?_|refine C9 (gk rfl) rfl rfl rfl rfl rfl (by omega) (by first|rfl|exact An.symm|(simp only[lns]<;>omega)) rfl ?_|refine AQ ?_|refine BY (gk rfl) rfl rfl (by omega) rfl rfl rfl ?_|refine AY ?_|refine LN (gk rfl) rfl rfl rfl rfl rfl ?_|fail)
   refine BU (k+1) ?_;exact Al
  ·have dlt:=CM k l.length;have hk':k=l.length:=by omega
   subst hk'
   repeat'(first|refine Ad ?_|refine H3 (gk rfl) rfl rfl (by first|rfl|exact An.symm|(simp only[lns]<;>omega)) rfl rfl rfl rfl ?_|refine AQ ?_|fail)
   exact Ag (Al (l:=[(2,AD (.str (mkS (U5 l l.length)))),(3,AI 0)]) (b:=[(9100,.pin 100 (r 100)),(9101,.pin 101 (r 101)),(100,.box [.row 101 l.length,.d (.int .i64 0)]),(101,.row 5 1 (rowOf EC l))])) (Jr Ae (.tmp rfl rfl (.tmp rfl rfl .nil)) rfl (by repeat'(first|exact tt0|refine⟨rfl,?_⟩)))
theorem Qy:Ak 299 [AI 8] (AI 4):=by
 refine Ao func299 ntmps299 results299 fun E hS=>?_
 repeat'(first|refine Af ?_|fail)
 refine Er 3 (fun k=>AN [(0,AI (8/2^k)),(3,AI ((k:Int)+1))] []) ?_ ?_
 ·exact Al
 ·intro k hk;have hk7:k=0\/k=1\/k=2\/k=3:=by omega
  rcases hk7 with rfl|rfl|rfl|rfl
  ·repeat'(first|refine Af ?_|fail)
   refine⟨1,by omega,by omega,?_⟩;exact Al
  ·repeat'(first|refine Af ?_|fail)
   refine⟨2,by omega,by omega,?_⟩;exact Al
  ·repeat'(first|refine Af ?_|fail)
   refine⟨3,by omega,by omega,?_⟩;exact Al
  ·repeat'(first|refine Ad ?_|fail)
   exact AZ
theorem S7 (l:List Int) (hl:l.length<=1000):FnW Tryz.prog 263 [.c (.ptr 100 0),AI 8,AD (.str ⟨#[]⟩)] [(100,.box [.row 101 l.length,.d (.int .i64 0)]),(101,.row 5 1 (rowOf EC l))] [100] (.tup []) [(100,.box [.row 102 (Tt l 4 0).length,.d (.int .i64 0)]),(102,.row 5 1 (rowOf EC (Tt l 4 0)))]:=by
 have hr:=L5 l 4 (by omega);have hpt:=GY l 4 0 (by omega) (by omega);have hlen:=O9 l 4 0;have hz:(ByteArray.mk #[]).size=0:=rfl;intro r;simp only[Ch,Akq,Aku,Akt,Akp,Nat.reduceAdd];refine FnS.Bv (enters_of func263 (by kernel_rfl) rfl) func263 rfl ntmps263 results263 rfl (by first|rfl|(simp only[BC,wfL,Bj,wfs,AA,Az];rfl)) rfl fun E=>?_
 refine AG ?_
 repeat'(first|refine AJ ?_|refine Aa (Qy) ?_|refine A1 (nmL []) [] [100,101] (hr) ?_|refine A1 (nmL []) [] [100] (hpt) ?_|refine sq 7 rfl ?_|fail)
 all_goals try (exfalso;omega)
 repeat'(first|refine Af ?_|fail)
 refine Er 0 (fun k=>AN [(0,.c (.ptr 100 0)),(2,AD (.str ⟨#[]⟩)),(6,AI 0)] [(9100,.pin 100 (r 100)),(100,.box [.row 101 (Tt l 4 0).length,.d (.int .i64 0)]),(101,.row 5 1 (rowOf EC (Tt l 4 0)))]) ?_ ?_
 ·exact BF (fun n=>if n=101 then 42102 else n)
 ·intro k hk
  repeat'(first|refine Ad ?_|fail)
  exact K7 (fun n=>if n=102 then 101 else n)
theorem Ja:Ak 264 [AiY] (AB true):=by
 refine Ao func264 ntmps264 results264 fun E hS=>?_
 repeat'(first|refine Ad ?_|fail)
 exact AO
theorem Wd (b:Bool):Ak 259 [Aen b] (AI 0):=by
 refine Ao func259 ntmps259 results259 fun E hS=>?_
 repeat'(first|refine Ad ?_|refine Aa (Ja) ?_|fail)
 exact AZ
noncomputable def w0W:List Int:=Tt [] 5 0
noncomputable def w1W:List Int:=MQ w0W false
noncomputable def w2W:List Int:=Tt w1W 4 0
noncomputable def w3W:List Int:=MQ w2W false
theorem Ag0 (w:Int) (k:Nat):K6 w 0 k=List.replicate k 0:=by
 unfold K6;refine List.ext_getElem (by simp) fun i h1 h2=>?_
 simp only[List.getElem_map,List.getElem_range,List.getElem_replicate];rw[Int.zero_ediv,Aca (by omega)]
 rfl
theorem Ajj:Ur .or .u8 0 0=0:=by
 rw[KA]
 decide
theorem AiU (n k:Nat):(List.replicate n (0:Int)).getD k default=0:=by
 rw[Ajt,List.getElem?_replicate]
 split<;>rfl
theorem Agw (n:Nat):∀k,U5 (List.replicate n 0) k=List.replicate ((n+7)/8) 0
 |0=>by rw[U5,AjH]
 |k+1=>by
  rw[U5,Agw n k,AiU,AiU,Int.zero_mul,show IntKind.u8.wrap 0=0 from rfl,Ajj];refine List.ext_getElem (by simp) fun i h1 h2=>?_
  simp[List.getElem_set]
theorem Afy:w3W=List.replicate 11 0:=by
 unfold w3W w2W w1W w0W MQ Tt;rw[Ag0,Ag0];rfl
theorem Afx:mkS (U5 w3W w3W.length)=AaA false:=by
 rw[Afy,Agw]
 kernel_rfl
theorem Wc:Ak 194 [Aen false] (.tup [AD (.str (AaA false)),AI 0]):=by
 have h5:(2:Int)^(5:Int).toNat=32:=by decide
 have i5:(5:Int).toNat=5:=rfl;have i4:(4:Int).toNat=4:=rfl;have l0:w0W.length=5:=by rw[w0W,O9];rfl
 have l1:w1W.length=6:=by rw[w1W,MP,l0]
 have l2:w2W.length=10:=by rw[w2W,O9,l1];rfl
 have l3:w3W.length=11:=by rw[w3W,MP,l2]
 have u1:=OQ [] 5 0 (by decide) (by rw[h5];omega) (by decide);rw[show Tt [] 5 0=w0W from rfl] at u1;have u2:=RD w0W false (by omega);rw[show MQ w0W false=w1W from rfl] at u2;have u3:=S7 w1W (by omega);rw[show Tt w1W 4 0=w2W from rfl] at u3;have u4:=RD w2W false (by omega);rw[show MQ w2W false=w3W from rfl] at u4;have u5:=SD w3W (by omega);rw[Afx] at u5;refine Ao func194 ntmps194 results194 fun E hS=>?_
 repeat'(first|refine AJ ?_|refine Aa (Wd false) ?_|refine Aa (YP) ?_|refine sq 5 rfl ?_|fail)
 refine VC.le (σ':=AN [(1,.c (.ptr 1 0)),(2,AD (.str ⟨#[]⟩)),(3,AI 0),(5,.c (.ptr 100 0))] [(1,.box [.d (.int .i64 0),.d (.bool false),.d (.str ⟨#[]⟩),.d (.int .i64 0),.d (.int .i64 0),.d (.int .i64 0),.d .Df]),(100,.box [.row 101 ([]:List Int).length,.d (.int .i64 0)]),(101,.row 5 1 (rowOf EC []))]) ?_ ?_
 ·exact BF (fun n=>if n=100 then 12100 else if n=101 then 12101 else n)
 repeat'(first|refine AJ ?_|refine A1 (nmL []) [] [100] (u1) ?_|refine sq 6 rfl ?_|fail)
 refine VC.le (σ':=AN [(1,.c (.ptr 1 0)),(2,AD (.str ⟨#[]⟩)),(3,AI 0),(5,.c (.ptr 100 0))] [(1,.box [.d (.int .i64 0),.d (.bool false),.d (.str ⟨#[]⟩),.d (.int .i64 0),.d (.int .i64 0),.d (.int .i64 0),.d .Df]),(100,.box [.row 101 w0W.length,.d (.int .i64 0)]),(101,.row 5 1 (rowOf EC w0W))]) ?_ ?_
 ·exact BF (fun n=>if n=101 then 16102 else n)
 repeat'(first|refine AJ ?_|refine A1 (nmL []) [] [100] (u2) ?_|refine sq 7 rfl ?_|fail)
 refine VC.le (σ':=AN [(1,.c (.ptr 1 0)),(2,AD (.str ⟨#[]⟩)),(3,AI 0),(5,.c (.ptr 100 0))] [(1,.box [.d (.int .i64 0),.d (.bool false),.d (.str ⟨#[]⟩),.d (.int .i64 0),.d (.int .i64 0),.d (.int .i64 0),.d .Df]),(100,.box [.row 101 w1W.length,.d (.int .i64 0)]),(101,.row 5 1 (rowOf EC w1W))]) ?_ ?_
 ·exact BF (fun n=>if n=101 then 20102 else n)
 repeat'(first|refine AJ ?_|refine A1 (nmL []) [] [100] (u3) ?_|refine sq 8 rfl ?_|fail)
 refine VC.le (σ':=AN [(1,.c (.ptr 1 0)),(2,AD (.str ⟨#[]⟩)),(3,AI 0),(5,.c (.ptr 100 0))] [(1,.box [.d (.int .i64 0),.d (.bool false),.d (.str ⟨#[]⟩),.d (.int .i64 0),.d (.int .i64 0),.d (.int .i64 0),.d .Df]),(100,.box [.row 101 w2W.length,.d (.int .i64 0)]),(101,.row 5 1 (rowOf EC w2W))]) ?_ ?_
 ·exact BF (fun n=>if n=101 then 24102 else n)
 repeat'(first|refine AJ ?_|refine Aa (Ja) ?_|refine A1 (nmL []) [] [100] (u4) ?_|refine sq 9 rfl ?_|fail)
 refine VC.le (σ':=AN [(1,.c (.ptr 1 0)),(2,AD (.str ⟨#[]⟩)),(3,AI 0),(5,.c (.ptr 100 0))] [(1,.box [.d (.int .i64 0),.d (.bool false),.d (.str ⟨#[]⟩),.d (.int .i64 0),.d (.int .i64 0),.d (.int .i64 0),.d .Df]),(100,.box [.row 101 w3W.length,.d (.int .i64 0)]),(101,.row 5 1 (rowOf EC w3W))]) ?_ ?_
 ·exact BF (fun n=>if n=101 then 30102 else n)
 repeat'(first|refine Ad ?_|refine Aa (Ja) ?_|refine A1 (nmL []) [] [100,101] (u5) ?_|fail)
 exact Bg
end Go.Proofs
