/-
  Functions' results, and laws on them. No condition.
-/
import Derived.Test.YtdlcbilgemnomaaGreatSxMah
set_option linter.unusedSimpArgs false
set_option linter.unusedVariables false
set_option maxHeartbeats 16000000
open Go.Proofs.Tryz
namespace Go.Proofs
open Go Go.Sx Go.Proofs.T Go.Proofs.Q
set_option maxRecDepth 4000
attribute [local irreducible] VR VC thenQ blockQ retL
theorem Wv:FnS Tryz.prog 226 [] [] (.c (.ptr 100 0)) [(100,.box [.row 101 0,.d (.int .i64 0),.d (.int .i64 0)]),(101,.row 5 1 (rowOf EC []))]:=by
 refine Ao func226 ntmps226 results226 fun E hS=>?_
 refine AG ?_
 repeat'(first|refine Ad ?_|fail)
 refine GR (Gf (bx:=2) (nm:=101) (T:=5) (sz:=1) (j:=0) rfl rfl rfl) ?_;exact Ag (BF (l:=[(0,.c (.ptr 100 0))]) (b:=[(100,.box [.row 101 0,.d (.int .i64 0),.d (.int .i64 0)]),(101,.row 5 1 (rowOf EC []))]) (fun n=>if n=100 then 2 else n)) (Jr Ae (.tmp rfl rfl .nil) rfl (by repeat'(first|exact tt0|refine⟨rfl,?_⟩)))
theorem Aeg {C:List Bool} {n w k:Nat} (hn:n<2^63) (hk:k<w):IntKind.u8.wrap (IntKind.u8.wrap (Ur .and .u64 ((n:Int)/2^((w:Int)-1-(k:Int)).toNat) 1)*2^(7-(C.length:Int) % 8).toNat)=((Uq (decide (n/2^(w-1-k) % 2=1))*2^(7-C.length % 8):Nat):Int):=by
 have e1:((w:Int)-1-(k:Int)).toNat=w-1-k:=by omega
 have e2:(7-(C.length:Int) % 8).toNat=7-C.length % 8:=by omega
 have e3:(n:Int)/2^(w-1-k)=((n/2^(w-1-k):Nat):Int):=by simp
 have hlt:n/2^(w-1-k)<2^64:=by
  have:=Nat.div_le_self n (2^(w-1-k));omega
 have hm:C.length % 8<8:=Nat.mod_lt _ (by decide);have hp:2^(7-C.length % 8)<=128:=Akn (Nat.pow_le_pow_right (by decide) (show 7-C.length % 8<=7 by omega)) (by decide);rw[e1,e2,e3,Aan hlt,Acb];have h2:n/2^(w-1-k) % 2<2:=Nat.mod_lt _ (by decide);generalize n/2^(w-1-k) % 2=b at *;rw[show IntKind.u8.wrap (b:Int)=b from wrap_u8 (by omega)];have e4:(b:Int)*2^(7-C.length % 8)=((b*2^(7-C.length % 8):Nat):Int):=by simp
 rw[e4];have h5:b*2^(7-C.length % 8)<=1*2^(7-C.length % 8):=Ako _ (by omega);exact wrap_u8 (by omega)
theorem Mi (B:List Bool) (w n:Nat) (hw:w<=63) (hn:n<2^63) (hB:B.length<=4000):FnW Tryz.prog 280 [.c (.ptr 100 0),AI w,AD (.int .u64 n)] [(100,.box [.row 101 (CD B).length,.d (.int .i64 B.length),.d (.int .i64 0)]),(101,.row 5 1 (rowOf EC (CD B)))] [100] (.tup []) [(100,.box [.row 102 (CD (B++Ep w n)).length,.d (.int .i64 (B++Ep w n).length),.d (.int .i64 0)]),(102,.row 5 1 (rowOf EC (CD (B++Ep w n))))]:=by
 intro r;simp only[Ch,Akq,Aku,Akt,Akp,Nat.reduceAdd];refine FnS.Bv (enters_of func280 (by kernel_rfl) rfl) func280 rfl ntmps280 results280 rfl (by first|rfl|(simp only[BC,wfL,Bj,wfs,AA,Az];rfl)) rfl fun E=>?_
 refine AG ?_
 repeat'(first|refine Af ?_|fail)
 refine Er w (fun k=>AN [(0,.c (.ptr 100 0)),(1,AI w),(2,AD (.int .u64 n)),(6,AI ((w:Int)-1-(k:Int)))] [(9100,.pin 100 (r 100)),(100,.box [.row 101 (CD (B++J1 w n k)).length,.d (.int .i64 (B++J1 w n k).length),.d (.int .i64 0)]),(101,.row 5 1 (rowOf EC (CD (B++J1 w n k))))]) ?_ ?_
 ·rw[show J1 w n 0=[] from rfl,AjQ,show(w:Int)-1-((0:Nat):Int)=(w:Int)-1 by omega];exact Al
 ·intro k hk;have hlen:(B++J1 w n k).length=B.length+k:=by rw[Ajy,Aah]
  rcases Akf k w with hlt|hge
  ·have dlt:=Es (0<=(w:Int)-1-(k:Int));have es:=Xs w n k;have ea:B++J1 w n (k+1)=(B++J1 w n k)++[decide (n/2^(w-1-k) % 2=1)]:=by rw[es,AjP]
   generalize B++J1 w n k=C at hlen ea ⊢;have hpl:=Gt C;have hol:=QU C;have hval:=Aeg (C:=C) (n:=n) (w:=w) (k:=k) hn hlt;have hfin:=Wz C (decide (n/2^(w-1-k) % 2=1));rw[<-hval,show C.length/8=((C.length:Int)/8).toNat by omega] at hfin;by_cases h8:C.length % 8=0
   ·have d8:=Es ((C.length:Int) % 8=0);have eo:Kq C=CD C++[0]:=Akc h8
    repeat'(first|refine AJ ?_|refine Ap ?_|refine sq 5 rfl ?_|refine BN ?_|fail)
    refine VC.le (σ':=AN [(0,.c (.ptr 100 0)),(1,AI w),(2,AD (.int .u64 n)),(6,AI ((w:Int)-1-(k:Int)))] [(9100,.pin 100 (r 100)),(100,.box [.row 101 (Kq C).length,.d (.int .i64 C.length),.d (.int .i64 0)]),(101,.row 5 1 (rowOf EC (Kq C)))]) ?_ ?_
    ·rw[eo];exact BF (fun n=>if n=101 then 25 else n)
    repeat'(first|refine Ad ?_|refine LH (gk rfl) rfl rfl (by omega) (by(show _<=8;omega)) rfl rfl ?_|refine IZ (gk rfl) rfl rfl (by omega) (by(show _<=64;omega)) rfl ?_|refine C9 (gk rfl) rfl rfl rfl rfl rfl (by omega) (by exact An.symm) rfl ?_|refine BY (gk rfl) rfl rfl (by omega) rfl rfl rfl ?_|refine AY ?_|refine C3 (gk rfl) rfl ⟨_,rfl⟩ rfl rfl ?_|refine LN (gk rfl) rfl rfl rfl rfl rfl ?_|fail)
    refine BU (k+1) ?_;rw[ea,<-hfin,show(w:Int)-1-((k+1:Nat):Int)=(w:Int)-1-(k:Int)-1 by omega,show(((C++[decide (n/2^(w-1-k) % 2=1)]).length:Nat):Int)=(C.length:Int)+1 by simp];exact Al
   ·have d8:=Cc ((C.length:Int) % 8=0);have eo:Kq C=CD C:=Akb h8
    repeat'(first|refine AJ ?_|refine sq 5 rfl ?_|refine BN ?_|fail)
    refine VC.le (σ':=AN [(0,.c (.ptr 100 0)),(1,AI w),(2,AD (.int .u64 n)),(6,AI ((w:Int)-1-(k:Int)))] [(9100,.pin 100 (r 100)),(100,.box [.row 101 (Kq C).length,.d (.int .i64 C.length),.d (.int .i64 0)]),(101,.row 5 1 (rowOf EC (Kq C)))]) ?_ ?_
    ·rw[eo];exact Al
    repeat'(first|refine Ad ?_|refine LH (gk rfl) rfl rfl (by omega) (by(show _<=8;omega)) rfl rfl ?_|refine IZ (gk rfl) rfl rfl (by omega) (by(show _<=64;omega)) rfl ?_|refine C9 (gk rfl) rfl rfl rfl rfl rfl (by omega) (by exact An.symm) rfl ?_|refine BY (gk rfl) rfl rfl (by omega) rfl rfl rfl ?_|refine AY ?_|refine C3 (gk rfl) rfl ⟨_,rfl⟩ rfl rfl ?_|refine LN (gk rfl) rfl rfl rfl rfl rfl ?_|fail)
    refine BU (k+1) ?_;rw[ea,<-hfin,show(w:Int)-1-((k+1:Nat):Int)=(w:Int)-1-(k:Int)-1 by omega,show(((C++[decide (n/2^(w-1-k) % 2=1)]).length:Nat):Int)=(C.length:Int)+1 by simp];exact Al
  ·have dlt:=Cc (0<=(w:Int)-1-(k:Int));have hk':k=w:=by omega
   subst hk';rw[show J1 k n k=Ep k n from rfl]
   repeat'(first|refine Ad ?_|fail)
   exact K7 (fun n=>if n=102 then 101 else n)
def K2:ByteArray:=⟨((List.replicate 1 0++List.replicate 1 1++List.replicate 2 2++List.replicate 4 3++List.replicate 8 4++List.replicate 16 5++List.replicate 32 6++List.replicate 64 7++List.replicate 128 8).map UInt8.ofNat).toArray⟩
def Sv (n:Nat):Nat×Nat:=if 65536<=n then(16,n/65536) else(0,n)
def XC (p:Nat×Nat):Nat×Nat:=if 256<=p.2 then(p.1+8,p.2/256) else p
def Y7 (n:Nat):Int:=((XC (Sv n)).1:Int)+bAt K2 (XC (Sv n)).2
theorem AeB:∀j:Fin 9,∀x:Fin 256,x.val<2^j.val->bAt K2 x.val<=j.val:=by decide +kernel
theorem Gh (s:ByteArray) (i:Nat):0<=bAt s i/\bAt s i<256:=by
 unfold bAt;have:=(s.data.toList.getD i 0).toNat_lt;omega
theorem Pp {L:ByteArray} {a:Int} {m n:Nat} {p:Nat×Nat} (hL:L=K2) (hp:XC (Sv n)=p) (ha:a=(p.1:Int)) (hm:m=p.2) (h24:p.1<=24):IntKind.i64.wrap (a+IntKind.i64.wrap (bAt L m))=Y7 n:=by
 subst hL hm ha;have:=Gh K2 p.2;rw[show IntKind.i64.wrap (bAt K2 p.2)=bAt K2 p.2 from wrap_i64 (by omega),wrap_i64 (by omega)];unfold Y7;rw[hp]
theorem AeA {n w:Nat} (hn:n<2^w) (hw:w<=32):0<=Y7 n/\Y7 n<=w:=by
 have hb:=fun m=>Gh K2 m
 have key:∀m j:Nat,m<256->j<=8->m<2^j->bAt K2 m<=j:=fun m j hm hj h=>AeB ⟨j,by omega⟩ ⟨m,hm⟩ h
 have hdiv:∀c m e:Nat,m<2^e->c<=e->m/2^c<2^(e-c):=fun c m e h hc=>by
  rw[Nat.div_lt_iff_lt_mul (Nat.pow_pos (by decide)),<-Nat.pow_add,Nat.sub_add_cancel hc];exact h
 have hle:∀c m e:Nat,2^c<=m->m<2^e->c<e:=fun c m e h1 h2=>(Nat.pow_lt_pow_iff_right (by decide)).1 (Nat.lt_of_le_of_lt h1 h2)
 have hmono:∀{m e f:Nat},m<2^e->e<=f->m<2^f:=fun h hef=>AjV h (Nat.pow_le_pow_right (by decide) hef)
 unfold Y7;refine⟨by have:=hb (XC (Sv n)).2;omega,?_⟩;by_cases h1:65536<=n
 ·have hA:Sv n=(16,n/65536):=Akc h1;have hw16:16<w:=hle 16 n w h1 hn;have hn1:n/65536<2^(w-16):=hdiv 16 n w hn (by omega);by_cases h2:256<=n/65536
  ·have hB:XC (Sv n)=(24,n/65536/256):=by rw[hA];exact Akc h2
   have hw8:8<w-16:=hle 8 _ _ h2 hn1;have hn2:n/65536/256<2^(w-16-8):=hdiv 8 _ _ hn1 (by omega);have h256:n/65536/256<256:=hmono hn2 (show w-16-8<=8 by omega);rw[hB];have:=key _ _ h256 (by omega) hn2;show((24:Nat):Int)+bAt K2 (n/65536/256)<=w;omega
  ·have hB:XC (Sv n)=(16,n/65536):=by rw[hA];exact Akb h2
   rw[hB];show((16:Nat):Int)+bAt K2 (n/65536)<=w;rcases Akf 8 (w-16) with h3|h3
   ·have:=key _ 8 (by omega) (Akd _) (show n/65536<2^8 by omega);omega
   ·have:=key _ _ (by omega) h3 hn1;omega
 ·have hA:Sv n=(0,n):=Akb h1;by_cases h2:256<=n
  ·have hB:XC (Sv n)=(8,n/256):=by rw[hA];exact Akc h2
   have hw8:8<w:=hle 8 _ _ h2 hn;have hn2:n/256<2^(w-8):=hdiv 8 _ _ hn (by omega);rw[hB];show((8:Nat):Int)+bAt K2 (n/256)<=w;rcases Akf 8 (w-8) with h3|h3
   ·have:=key _ 8 (by omega) (Akd _) (show n/256<2^8 by omega);omega
   ·have:=key _ _ (by omega) h3 hn2;omega
  ·have hB:XC (Sv n)=(0,n):=by rw[hA];exact Akb h2
   rw[hB];show((0:Nat):Int)+bAt K2 n<=w;rcases Akf 8 w with h3|h3
   ·have:=key _ 8 (by omega) (Akd _) (show n<2^8 by omega);omega
   ·have:=key _ _ (by omega) h3 hn;omega
theorem WN (n:Nat) (hn:n<2^32):Ak 305 [AD (.int .u64 n)] (AI (Y7 n)):=by
 have d0:=Cc ((4294967296:Int)<=(n:Int));refine Ao func305 ntmps305 results305 fun E hS=>?_
 by_cases h1:65536<=n
 ·have d1:=Es ((65536:Int)<=(n:Int));have f1:(n:Int)/2^Int.toNat 16=((n/65536:Nat):Int):=by
   rw[show(2:Int)^Int.toNat 16=65536 from rfl];omega
  have hA:Sv n=(16,n/65536):=Akc h1;by_cases h2:256<=n/65536
  ·have d2:=Es (256<=(n:Int)/2^Int.toNat 16);have hB:XC (Sv n)=(24,n/65536/256):=by rw[hA];exact Akc h2
   have f2:(n:Int)/2^Int.toNat 16/2^Int.toNat 8=((n/65536/256:Nat):Int):=by
    rw[f1,show(2:Int)^Int.toNat 8=256 from rfl];omega
   repeat'(first|refine Ad ?_|refine Da (m:=n/65536/256) (gk rfl) rfl rfl rfl (by omega) (show _<(256:Int) from by omega) (by omega) rfl ?_|refine IZ (gk rfl) rfl rfl (by omega) (by decide) rfl ?_|refine A7 ?_|refine C3 (gk rfl) rfl ⟨_,rfl⟩ rfl rfl ?_|refine F2 rfl rfl rfl rfl rfl ?_|fail)
   refine Aw Ae rfl (Pp (p:=_) ?_ hB (by rfl) rfl (Nat.le_of_ble_eq_true rfl)).symm
   kernel_rfl
  ·have d2:=Cc (256<=(n:Int)/2^Int.toNat 16);have hB:XC (Sv n)=(16,n/65536):=by rw[hA];exact Akb h2
   repeat'(first|refine Ad ?_|refine Da (m:=n/65536) (gk rfl) rfl rfl rfl (by omega) (show _<(256:Int) from by omega) (by omega) rfl ?_|refine IZ (gk rfl) rfl rfl (by omega) (by decide) rfl ?_|refine A7 ?_|refine C3 (gk rfl) rfl ⟨_,rfl⟩ rfl rfl ?_|refine F2 rfl rfl rfl rfl rfl ?_|fail)
   refine Aw Ae rfl (Pp (p:=_) ?_ hB (by rfl) rfl (Nat.le_of_ble_eq_true rfl)).symm
   kernel_rfl
 ·have d1:=Cc ((65536:Int)<=(n:Int));have hA:Sv n=(0,n):=Akb h1;by_cases h2:256<=n
  ·have d2:=Es (256<=(n:Int));have hB:XC (Sv n)=(8,n/256):=by rw[hA];exact Akc h2
   have f2:(n:Int)/2^Int.toNat 8=((n/256:Nat):Int):=by
    rw[show(2:Int)^Int.toNat 8=256 from rfl];omega
   repeat'(first|refine Ad ?_|refine Da (m:=n/256) (gk rfl) rfl rfl rfl (by omega) (show _<(256:Int) from by omega) (by omega) rfl ?_|refine IZ (gk rfl) rfl rfl (by omega) (by decide) rfl ?_|refine A7 ?_|refine C3 (gk rfl) rfl ⟨_,rfl⟩ rfl rfl ?_|refine F2 rfl rfl rfl rfl rfl ?_|fail)
   refine Aw Ae rfl (Pp (p:=_) ?_ hB (by rfl) rfl (Nat.le_of_ble_eq_true rfl)).symm
   kernel_rfl
  ·have d2:=Cc (256<=(n:Int));have hB:XC (Sv n)=(0,n):=by rw[hA];exact Akb h2
   repeat'(first|refine Ad ?_|refine Da (m:=n) (gk rfl) rfl rfl rfl (by omega) (show _<(256:Int) from by omega) (by omega) rfl ?_|refine A7 ?_|refine C3 (gk rfl) rfl ⟨_,rfl⟩ rfl rfl ?_|refine F2 rfl rfl rfl rfl rfl ?_|fail)
   refine Aw Ae rfl (Pp (p:=_) ?_ hB (by rfl) rfl (Nat.le_of_ble_eq_true rfl)).symm
   kernel_rfl
theorem Vj (n:Nat) (hn:n<2^32):Ak 277 [AD (.int .u64 n)] (AI (Y7 n)):=by
 refine Ao func277 ntmps277 results277 fun E hS=>?_
 repeat'(first|refine Ad ?_|refine Aa (WN n hn) ?_|fail)
 exact AZ
theorem Aih:Y7 8=4:=by decide +kernel
theorem Ts (m:Nat) (hm:m<2^32):Ak 279 [AI m] (AI (max 1 (Y7 m))):=by
 have h:=Vj m hm;refine Ao func279 ntmps279 results279 fun E hS=>?_
 repeat'(first|refine Ad ?_|refine Aa (h) ?_|refine A7 ?_|fail)
 exact AZ
theorem WM (n:Int):Ak 278 [AI n] (AB (decide (1<=n/\n<=4095))):=by
 refine Ao func278 ntmps278 results278 fun E hS=>?_
 repeat'(first|refine Ad ?_|(refine Av ?_ ?_<;>intro h hq)|fail)
 ·refine Aq Ae rfl ?_;exact decide_eq_decide.2 (by omega)
 ·refine Aq Ae rfl ?_;exact Ajv (by omega)
theorem Je (B:List Bool) (w n:Nat) (b1 b2:Bool) (hb1:b1=true) (hb2:b2=true) (hw:w<=63) (hn:n<2^63) (hB:B.length<=4000):FnW Tryz.prog 276 [.c (.ptr 100 0),AB b1,AB b2,AI w,AI n] [(100,.box [.row 101 (CD B).length,.d (.int .i64 B.length),.d (.int .i64 0)]),(101,.row 5 1 (rowOf EC (CD B)))] [100] (.tup []) [(100,.box [.row 102 (CD (B++Ep w n)).length,.d (.int .i64 (B++Ep w n).length),.d (.int .i64 0)]),(102,.row 5 1 (rowOf EC (CD (B++Ep w n))))]:=by
 subst hb1 hb2;have hp:=Mi B w n hw hn hB;intro r;simp only[Ch,Akq,Aku,Akt,Akp,Nat.reduceAdd];refine FnS.Bv (enters_of func276 (by kernel_rfl) rfl) func276 rfl ntmps276 results276 rfl (by first|rfl|(simp only[BC,wfL,Bj,wfs,AA,Az];rfl)) rfl fun E=>?_
 refine AG ?_
 repeat'(first|refine Af ?_|refine A1 (nmL []) [] [100] (hp) ?_|refine A7 ?_|(refine Av ?_ ?_<;>intro h hq)|fail)
 all_goals try (exfalso;omega)
 exact K7 (fun n=>if n=102 then 14102 else n)
theorem NF (B:List Bool) (w n:Nat) (hw:1<=w/\w<=32) (hn:n<2^w) (hB:B.length<=4000):FnW Tryz.prog 227 [.c (.ptr 100 0),AI w,AI n] [(100,.box [.row 101 (CD B).length,.d (.int .i64 B.length),.d (.int .i64 0)]),(101,.row 5 1 (rowOf EC (CD B)))] [100] (.tup []) [(100,.box [.row 102 (CD (B++Ep w n)).length,.d (.int .i64 (B++Ep w n).length),.d (.int .i64 0)]),(102,.row 5 1 (rowOf EC (CD (B++Ep w n))))]:=by
 have h32:n<2^32:=AjV hn (Nat.pow_le_pow_right (by decide) hw.2);have hl:=AeA hn hw.2;have hle:=Vj n h32;have d1:=Es ((1:Int)<=(w:Int));have d2:=Es ((w:Int)<=63);have d3:=Es ((0:Int)<=(n:Int));have d4:decide (Y7 n<=(w:Int))=true:=Aju hl.2;have hf:=Je B w n _ _ d2 d4 (by omega) (by omega) hB;intro r;simp only[Ch,Akq,Aku,Akt,Akp,Nat.reduceAdd];refine FnS.Bv (enters_of func227 (by kernel_rfl) rfl) func227 rfl ntmps227 results227 rfl (by first|rfl|(simp only[BC,wfL,Bj,wfs,AA,Az];rfl)) rfl fun E=>?_
 refine AG ?_
 repeat'(first|refine Ad ?_|refine Aa (hle) ?_|refine A1 (nmL []) [] [100] (hf) ?_|refine A7 ?_|fail)
 exact K7 (fun n=>if n=102 then 29102 else n)
theorem N8 (B:List Bool) (b:Bool) (hB:B.length<=4000):FnW Tryz.prog 228 [.c (.ptr 100 0),AB b] [(100,.box [.row 101 (CD B).length,.d (.int .i64 B.length),.d (.int .i64 0)]),(101,.row 5 1 (rowOf EC (CD B)))] [100] (.tup []) [(100,.box [.row 102 (CD (B++[b])).length,.d (.int .i64 (B++[b]).length),.d (.int .i64 0)]),(102,.row 5 1 (rowOf EC (CD (B++[b]))))]:=by
 have h1:=Je B 1 1 true true rfl rfl (by decide) (by decide) hB;have h0:=Je B 1 0 true true rfl rfl (by decide) (by decide) hB;rw[show Ep 1 1=[true] from rfl] at h1;rw[show Ep 1 0=[false] from rfl] at h0;intro r;simp only[Ch,Akq,Aku,Akt,Akp,Nat.reduceAdd];refine FnS.Bv (enters_of func228 (by kernel_rfl) rfl) func228 rfl ntmps228 results228 rfl (by first|rfl|(simp only[BC,wfL,Bj,wfs,AA,Az];rfl)) rfl fun E=>?_
 refine AG ?_;cases b with
 |true=>
  repeat'(first|refine Ad ?_|refine A1 (nmL []) [] [100] (h1) ?_|fail)
  exact K7 (fun n=>if n=102 then 8102 else n)
 |false=>
  repeat'(first|refine Ad ?_|refine A1 (nmL []) [] [100] (h0) ?_|fail)
  exact K7 (fun n=>if n=102 then 8102 else n)
def R4 (s:ByteArray) (i:Nat):Nat:=(s.data.toList.getD i 0).toNat
theorem Aaf (s:ByteArray) (i:Nat):bAt s i=(R4 s i:Int):=rfl
theorem Aae (s:ByteArray) (i:Nat):R4 s i<256:=(s.data.toList.getD i 0).toNat_lt
def Nw (B:List Bool) (s:ByteArray):Nat->List Bool
 |0=>B
 |k+1=>Nw B s k++Ep 8 (R4 s k)
theorem LQ (B:List Bool) (s:ByteArray):∀k,(Nw B s k).length=B.length+8*k
 |0=>rfl
 |k+1=>by rw[Nw,Ajy,LQ B s k,HU];omega
def SS (B:List Bool) (w:Nat) (s:ByteArray):List Bool:=Nw (B++Ep w s.size) s s.size
theorem Qm (B:List Bool) (w:Nat) (s:ByteArray):(SS B w s).length=B.length+w+8*s.size:=by
 rw[SS,LQ,Ajy,HU]
theorem Wt (B:List Bool) (m w:Nat) (s:ByteArray) (hm:1<=m/\m<=255) (hmw:max 1 (Y7 m)=w) (hs:s.size<=m) (hsw:s.size<2^w) (hw:w<=8) (hB:B.length<=1000):FnW Tryz.prog 229 [.c (.ptr 100 0),AI m,AD (.str s)] [(100,.box [.row 101 (CD B).length,.d (.int .i64 B.length),.d (.int .i64 0)]),(101,.row 5 1 (rowOf EC (CD B)))] [100] (.tup []) [(100,.box [.row 102 (CD (SS B w s)).length,.d (.int .i64 (SS B w s).length),.d (.int .i64 0)]),(102,.row 5 1 (rowOf EC (CD (SS B w s))))]:=by
 have hwd:=Ts m (by omega);rw[hmw] at hwd;have hlm:=WM m;rw[Aju (show(1:Int)<=(m:Int)/\(m:Int)<=4095 by omega)] at hlm;have hpt:=Mi B w s.size (by omega) (by omega) (by omega);have d1:=CM m s.size;have d2:=Cc (524288<(B.length:Int)+(w:Int)+8*(s.size:Int));intro r;simp only[Ch,Akq,Aku,Akt,Akp,Nat.reduceAdd];refine FnS.Bv (enters_of func229 (by kernel_rfl) rfl) func229 rfl ntmps229 results229 rfl (by first|rfl|(simp only[BC,wfL,Bj,wfs,AA,Az];rfl)) rfl fun E=>?_
 refine AG ?_
 repeat'(first|refine Af ?_|refine Aa (hwd) ?_|refine Aa (hlm) ?_|refine A1 (nmL []) [] [100] (hpt) ?_|refine A7 ?_|fail)
 refine Er s.size (fun k=>AN [(0,.c (.ptr 100 0)),(2,AD (.str s)),(15,AI s.size),(16,AI k)] [(9100,.pin 100 (r 100)),(100,.box [.row 101 (CD (Nw (B++Ep w s.size) s k)).length,.d (.int .i64 (Nw (B++Ep w s.size) s k).length),.d (.int .i64 0)]),(101,.row 5 1 (rowOf EC (CD (Nw (B++Ep w s.size) s k))))]) ?_ ?_
 ·exact BF (fun n=>if n=101 then 13102 else n)
 ·intro k hk;have htl:=LQ (B++Ep w s.size) s k;rw[Ajy,HU] at htl;rcases Akf k s.size with hlt|hge
  ·have dlt:=Cz k s.size;have hb:=Aae s k;have hb':0<=bAt s k/\bAt s k<256:=Gh s k;have hk8:=Mi (Nw (B++Ep w s.size) s k) 8 (R4 s k) (by decide) (by omega) (by omega);rw[<-Aaf] at hk8
   repeat'(first|refine Af ?_|refine A1 (nmL []) [] [100] (hk8) ?_|refine Da (gk rfl) rfl rfl rfl (by omega) (by omega) (by exact(Ale _).symm) rfl ?_|refine A7 ?_|fail)
   refine BU (k+1) ?_;rw[show Nw (B++Ep w s.size) s (k+1)=Nw (B++Ep w s.size) s k++Ep 8 (R4 s k) from rfl];exact BF (fun n=>if n=101 then 24102 else n)
  ·have dlt:=CM k s.size;have hk':k=s.size:=by omega
   subst hk'
   repeat'(first|refine Ad ?_|fail)
   exact K7 (fun n=>if n=102 then 101 else n)
theorem Tw (B:List Bool) (hB:B.length<=4000):FnW Tryz.prog 231 [.c (.ptr 100 0)] [(100,.box [.row 101 (CD B).length,.d (.int .i64 B.length),.d (.int .i64 0)]),(101,.row 5 1 (rowOf EC (CD B)))] [100,101] (.tup [AD (.str (mkS (CD B))),AI 0]) [(100,.box [.row 101 (CD B).length,.d (.int .i64 B.length),.d (.int .i64 0)]),(101,.row 5 1 (rowOf EC (CD B)))]:=by
 intro r;simp only[Ch,Akq,Aku,Akt,Akp,Nat.reduceAdd];refine FnS.Bv (enters_of func231 (by kernel_rfl) rfl) func231 rfl ntmps231 results231 rfl (by first|rfl|(simp only[BC,wfL,Bj,wfs,AA,Az];rfl)) rfl fun E=>?_
 refine AG ?_
 repeat'(first|refine Ad ?_|refine H3 (gk rfl) rfl rfl (by rfl) rfl rfl rfl rfl ?_|fail)
 exact Ag (Al (l:=[(2,AD (.str (mkS (CD B)))),(3,AI 0)]) (b:=[(9100,.pin 100 (r 100)),(9101,.pin 101 (r 101)),(100,.box [.row 101 (CD B).length,.d (.int .i64 B.length),.d (.int .i64 0)]),(101,.row 5 1 (rowOf EC (CD B)))])) (Jr Ae (.tmp rfl rfl (.tmp rfl rfl .nil)) rfl (by repeat'(first|exact tt0|refine⟨rfl,?_⟩)))
end Go.Proofs
