/-
  What functions of the program hand back, and plain laws on that. No condition.
-/
import Derived.Test.YtdlcbilgemnomaaGreatSxMad
import Derived.Test.YtdlcbilgemnomaaGreatSxMab
import Derived.Test.YtdlcbilgemnomaaGreatSxLibC
set_option linter.unusedSimpArgs false
set_option linter.unusedVariables false
section
namespace Go.Proofs
open Go Go.Sx Go.Proofs.T Go.Proofs.Q
set_option maxRecDepth 4000
attribute [local irreducible] VR VC thenQ blockQ retL
def I7:ByteArray:=⟨((List.replicate 1 0++List.replicate 1 1++List.replicate 2 2++List.replicate 4 3++List.replicate 8 4++List.replicate 16 5++List.replicate 32 6++List.replicate 64 7++List.replicate 128 8).map UInt8.ofNat).toArray⟩
def OY (n:Nat):Nat×Nat:=if 65536<=n then(16,n/65536) else(0,n)
def Tc (p:Nat×Nat):Nat×Nat:=if 256<=p.2 then(p.1+8,p.2/256) else p
def Uq (n:Nat):Int:=((Tc (OY n)).1:Int)+bAt I7 (Tc (OY n)).2
theorem ZB:∀j:Fin 9,∀x:Fin 256,x.val<2^j.val->bAt I7 x.val<=j.val:=by decide +kernel
theorem Hx (s:ByteArray) (i:Nat):0<=bAt s i/\bAt s i<256:=by
 unfold bAt;have:=(s.data.toList.getD i 0).toNat_lt;omega
theorem Ml {L:ByteArray} {a:Int} {m n:Nat} {p:Nat×Nat} (hL:L=I7) (hp:Tc (OY n)=p) (ha:a=(p.1:Int)) (hm:m=p.2) (h24:p.1<=24):IntKind.i64.wrap (a+IntKind.i64.wrap (bAt L m))=Uq n:=by
 subst hL hm ha;have:=Hx I7 p.2;rw[show IntKind.i64.wrap (bAt I7 p.2)=bAt I7 p.2 from wrap_i64 (by omega),wrap_i64 (by omega)];unfold Uq;rw[hp]
theorem ZA {n w:Nat} (hn:n<2^w) (hw:w<=32):0<=Uq n/\Uq n<=w:=by
 have hb:=fun m=>Hx I7 m
 have key:∀m j:Nat,m<256->j<=8->m<2^j->bAt I7 m<=j:=fun m j hm hj h=>ZB ⟨j,by omega⟩ ⟨m,hm⟩ h
 have hdiv:∀c m e:Nat,m<2^e->c<=e->m/2^c<2^(e-c):=fun c m e h hc=>by
  rw[Nat.div_lt_iff_lt_mul (Nat.pow_pos (by decide)),<-Nat.pow_add,Nat.sub_add_cancel hc];exact h
 have hle:∀c m e:Nat,2^c<=m->m<2^e->c<e:=fun c m e h1 h2=>(Nat.pow_lt_pow_iff_right (by decide)).1 (Nat.lt_of_le_of_lt h1 h2)
 have hmono:∀{m e f:Nat},m<2^e->e<=f->m<2^f:=fun h hef=>AeE h (Nat.pow_le_pow_right (by decide) hef)
 unfold Uq;refine⟨by have:=hb (Tc (OY n)).2;omega,?_⟩;by_cases h1:65536<=n
 ·have hA:OY n=(16,n/65536):=AeT h1;have hw16:16<w:=hle 16 n w h1 hn;have hn1:n/65536<2^(w-16):=hdiv 16 n w hn (by omega);by_cases h2:256<=n/65536
  ·have hB:Tc (OY n)=(24,n/65536/256):=by rw[hA];exact AeT h2
   have hw8:8<w-16:=hle 8 _ _ h2 hn1;have hn2:n/65536/256<2^(w-16-8):=hdiv 8 _ _ hn1 (by omega);have h256:n/65536/256<256:=hmono hn2 (show w-16-8<=8 by omega);rw[hB];have:=key _ _ h256 (by omega) hn2;show((24:Nat):Int)+bAt I7 (n/65536/256)<=w;omega
  ·have hB:Tc (OY n)=(16,n/65536):=by rw[hA];exact AeS h2
   rw[hB];show((16:Nat):Int)+bAt I7 (n/65536)<=w;rcases AeW 8 (w-16) with h3|h3
   ·have:=key _ 8 (by omega) (AeU _) (show n/65536<2^8 by omega);omega
   ·have:=key _ _ (by omega) h3 hn1;omega
 ·have hA:OY n=(0,n):=AeS h1;by_cases h2:256<=n
  ·have hB:Tc (OY n)=(8,n/256):=by rw[hA];exact AeT h2
   have hw8:8<w:=hle 8 _ _ h2 hn;have hn2:n/256<2^(w-8):=hdiv 8 _ _ hn (by omega);rw[hB];show((8:Nat):Int)+bAt I7 (n/256)<=w;rcases AeW 8 (w-8) with h3|h3
   ·have:=key _ 8 (by omega) (AeU _) (show n/256<2^8 by omega);omega
   ·have:=key _ _ (by omega) h3 hn2;omega
  ·have hB:Tc (OY n)=(0,n):=by rw[hA];exact AeS h2
   rw[hB];show((0:Nat):Int)+bAt I7 n<=w;rcases AeW 8 w with h3|h3
   ·have:=key _ 8 (by omega) (AeU _) (show n<2^8 by omega);omega
   ·have:=key _ _ (by omega) h3 hn;omega
set_option maxHeartbeats 1000000 in
theorem Sq (n:Nat) (hn:n<2^32):FnS Tryz.prog 305 [AD (.int .u64 n)] [] (AI (Uq n)) []:=by
 have d0:decide ((4294967296:Int)<=(n:Int))=false:=Aee (by omega);refine fb Tryz.func305 (by kernel_rfl) rfl Tryz.ntmps305 Tryz.results305 rfl rfl rfl rfl fun E hS=>?_
 by_cases h1:65536<=n
 ·have d1:decide ((65536:Int)<=(n:Int))=true:=Aed (by omega);have f1:(n:Int)/2^Int.toNat 16=((n/65536:Nat):Int):=by
   rw[show(2:Int)^Int.toNat 16=65536 from rfl];omega
  have hA:OY n=(16,n/65536):=AeT h1;by_cases h2:256<=n/65536
  ·have d2:decide (256<=(n:Int)/2^Int.toNat 16)=true:=Aed (by omega);have hB:Tc (OY n)=(24,n/65536/256):=by rw[hA];exact AeT h2
   have f2:(n:Int)/2^Int.toNat 16/2^Int.toNat 8=((n/65536/256:Nat):Int):=by
    rw[f1,show(2:Int)^Int.toNat 8=256 from rfl];omega
   repeat'(first|refine sB ?_|(refine gX ?_;first|refine Df (m:=n/65536/256) (gk rfl) rfl rfl rfl (by omega) (show _<(256:Int) from by omega) (by omega) rfl ?_)|(show VR _ _ _ (⟨_,.binOp .shr _ _ _ _,_,_,_,_⟩ :: _) _ _ _;first|refine Io (gk rfl) rfl rfl (by omega) (by decide) rfl ?_)|refine Aj rfl (by first|exact tt0|omega) ?_|(refine gV ?_;first|refine Ba (gk rfl) rfl ⟨_,rfl⟩ rfl (by exact wrap_u8 (by omega)) rfl ?_|refine CX (gk rfl) rfl ⟨_,rfl⟩ rfl rfl ?_)|(refine gB ?_;first|refine IM rfl rfl rfl rfl rfl ?_)|(refine gD ?_;first|refine Ah rfl ?_|refine Ag rfl ?_|refine At rfl (by assumption) ?_)|fail)
   refine AG Ab rfl (Ml (p:=_) ?_ hB (by rfl) rfl (Nat.le_of_ble_eq_true rfl)).symm
   kernel_rfl
  ·have d2:decide (256<=(n:Int)/2^Int.toNat 16)=false:=Aee (by omega);have hB:Tc (OY n)=(16,n/65536):=by rw[hA];exact AeS h2
   repeat'(first|refine sB ?_|(refine gX ?_;first|refine Df (m:=n/65536) (gk rfl) rfl rfl rfl (by omega) (show _<(256:Int) from by omega) (by omega) rfl ?_)|(show VR _ _ _ (⟨_,.binOp .shr _ _ _ _,_,_,_,_⟩ :: _) _ _ _;first|refine Io (gk rfl) rfl rfl (by omega) (by decide) rfl ?_)|refine Aj rfl (by first|exact tt0|omega) ?_|(refine gV ?_;first|refine Ba (gk rfl) rfl ⟨_,rfl⟩ rfl (by exact wrap_u8 (by omega)) rfl ?_|refine CX (gk rfl) rfl ⟨_,rfl⟩ rfl rfl ?_)|(refine gB ?_;first|refine IM rfl rfl rfl rfl rfl ?_)|(refine gD ?_;first|refine Ah rfl ?_|refine Ag rfl ?_|refine At rfl (by assumption) ?_)|fail)
   refine AG Ab rfl (Ml (p:=_) ?_ hB (by rfl) rfl (Nat.le_of_ble_eq_true rfl)).symm
   kernel_rfl
 ·have d1:decide ((65536:Int)<=(n:Int))=false:=Aee (by omega);have hA:OY n=(0,n):=AeS h1;by_cases h2:256<=n
  ·have d2:decide (256<=(n:Int))=true:=Aed (by omega);have hB:Tc (OY n)=(8,n/256):=by rw[hA];exact AeT h2
   have f2:(n:Int)/2^Int.toNat 8=((n/256:Nat):Int):=by
    rw[show(2:Int)^Int.toNat 8=256 from rfl];omega
   repeat'(first|refine sB ?_|(refine gX ?_;first|refine Df (m:=n/256) (gk rfl) rfl rfl rfl (by omega) (show _<(256:Int) from by omega) (by omega) rfl ?_)|(show VR _ _ _ (⟨_,.binOp .shr _ _ _ _,_,_,_,_⟩ :: _) _ _ _;first|refine Io (gk rfl) rfl rfl (by omega) (by decide) rfl ?_)|refine Aj rfl (by first|exact tt0|omega) ?_|(refine gV ?_;first|refine Ba (gk rfl) rfl ⟨_,rfl⟩ rfl (by exact wrap_u8 (by omega)) rfl ?_|refine CX (gk rfl) rfl ⟨_,rfl⟩ rfl rfl ?_)|(refine gB ?_;first|refine IM rfl rfl rfl rfl rfl ?_)|(refine gD ?_;first|refine Ah rfl ?_|refine Ag rfl ?_|refine At rfl (by assumption) ?_)|fail)
   refine AG Ab rfl (Ml (p:=_) ?_ hB (by rfl) rfl (Nat.le_of_ble_eq_true rfl)).symm
   kernel_rfl
  ·have d2:decide (256<=(n:Int))=false:=Aee (by omega);have hB:Tc (OY n)=(0,n):=by rw[hA];exact AeS h2
   repeat'(first|refine sB ?_|(refine gX ?_;first|refine Df (m:=n) (gk rfl) rfl rfl rfl (by omega) (show _<(256:Int) from by omega) (by omega) rfl ?_)|refine Aj rfl (by exact tt0) ?_|(refine gV ?_;first|refine Ba (gk rfl) rfl ⟨_,rfl⟩ rfl (by exact wrap_u8 (by omega)) rfl ?_|refine CX (gk rfl) rfl ⟨_,rfl⟩ rfl rfl ?_)|(refine gB ?_;first|refine IM rfl rfl rfl rfl rfl ?_)|(refine gD ?_;first|refine Ag rfl ?_|refine At rfl (by assumption) ?_)|fail)
   refine AG Ab rfl (Ml (p:=_) ?_ hB (by rfl) rfl (Nat.le_of_ble_eq_true rfl)).symm
   kernel_rfl
theorem QY (n:Nat) (hn:n<2^32):FnS Tryz.prog 277 [AD (.int .u64 n)] [] (AI (Uq n)) []:=by
 refine fb Tryz.func277 (by kernel_rfl) rfl Tryz.ntmps277 Tryz.results277 rfl rfl rfl rfl fun E hS=>?_
 repeat'(first|refine sB ?_|refine Aj rfl (by exact tt0) ?_|(refine gC ?_;first|refine Aa (Sq n hn) (gk rfl) rfl rfl rfl (by rfl) rfl (by exact Aw) rfl ?_)|(refine gD ?_;first|refine Ag rfl ?_)|fail)
 exact AG Ab rfl rfl
theorem Ac6:Uq 8=4:=by decide +kernel
theorem Px (m:Nat) (hm:m<2^32):FnS Tryz.prog 279 [AI m] [] (AI (max 1 (Uq m))) []:=by
 have h:=QY m hm;refine fb Tryz.func279 (by kernel_rfl) rfl Tryz.ntmps279 Tryz.results279 rfl rfl rfl rfl fun E hS=>?_
 repeat'(first|refine sB ?_|refine Aj rfl (by exact tt0) ?_|(refine gC ?_;first|refine Aa (h) (gk rfl) rfl rfl rfl (by rfl) rfl (by exact Aw) rfl ?_)|(refine gV ?_;first|refine Ba (gk rfl) rfl ⟨_,rfl⟩ rfl (by exact wrap_u64 (by omega)) rfl ?_)|(refine gD ?_;first|refine Ag rfl ?_)|fail)
 exact AG Ab rfl rfl
theorem So (n:Int):FnS Tryz.prog 278 [AI n] [] (AB (decide (1<=n/\n<=4095))) []:=by
 refine fb Tryz.func278 (by kernel_rfl) rfl Tryz.ntmps278 Tryz.results278 rfl rfl rfl rfl fun E hS=>?_
 repeat'(first|refine sB ?_|refine Aj rfl (by exact tt0) ?_|(refine Ax rfl ?_ ?_<;>intro h<;>have hq:=h<;>(try simp only[hqs] at hq))|fail)
 ·refine As Ab rfl ?_;exact decide_eq_decide.2 (by omega)
 ·refine As Ab rfl ?_;exact Aee (by omega)
theorem Hn (B:List Bool) (w n:Nat) (b1 b2:Bool) (hb1:b1=true) (hb2:b2=true) (hw:w<=63) (hn:n<2^63) (hB:B.length<=4000):FnW Tryz.prog 276 [.c (.ptr 100 0),AB b1,AB b2,AI w,AI n] [(100,.box [.row 101 (BH B).length,.d (.int .i64 B.length),.d (.int .i64 0)]),(101,.row 5 1 (rowOf G9 (BH B)))] [100] (.tup []) [(100,.box [.row 102 (BH (B++CK w n)).length,.d (.int .i64 (B++CK w n).length),.d (.int .i64 0)]),(102,.row 5 1 (rowOf G9 (BH (B++CK w n))))]:=by
 subst hb1 hb2;have hp:=J0 B w n hw hn hB;intro r;simp only[Cd,List.map_cons,List.map_nil,List.cons_append,List.nil_append,Nat.reduceAdd];refine FnS.Bu (enters_of Tryz.func276 (by kernel_rfl) rfl) Tryz.func276 rfl Tryz.ntmps276 Tryz.results276 rfl (by first|rfl|(simp only[AZ,wfL,AH,wfs,Ae,Ad];rfl)) rfl fun E=>?_
 refine AK ?_
 repeat'(first|(refine gR ?_;first|refine Aj rfl (by first|exact tt0|omega) ?_|(refine gC ?_;first|refine B5 (nmL []) [] [100] (hp) (gk rfl) rfl rfl (by(repeat'(first|exact .nil|refine .cons ?_ ?_|exact .w (.c (.ptr rfl)) rfl|exact .r (.of0 (.c .d))))<;>fail) (by(repeat'(first|exact tt0|refine⟨⟨_,rfl,?_⟩,?_⟩|exact .Bc rfl Ai|refine .box ?_|exact .nil|refine .cons ?_ ?_|exact .d|exact .row rfl rfl))<;>fail) rfl rfl rfl (by rfl) rfl (by(simp only[AZ,wfL,AH,wfs,Ae,Ad];rfl)) rfl rfl rfl (by(simp only[F2,List.map_cons,List.map_nil,Blk.ren,C.ren,Bw,B0,BZ,gW,D8,nmL,Nat.reduceBEq,Bool.or_false,Bool.or_true,Bool.false_or,Bool.true_or,cond_true,cond_false,Nat.reduceMul,Nat.reduceAdd])<;>rfl) (by(simp only[AV.ren,AV.Ik,List.map_cons,List.map_nil,C.ren,gW,D8,nmL,Nat.reduceBEq,Bool.or_false,Bool.or_true,Bool.false_or,Bool.true_or,cond_true,cond_false,Nat.reduceMul,Nat.reduceAdd])<;>rfl) rfl ?_)|(refine gN ?_;first|refine Ak (gk rfl) rfl rfl ?_)|(refine gV ?_;first|refine Ba (gk rfl) rfl ⟨_,rfl⟩ rfl (by exact wrap_u64 (by omega)) rfl ?_))|(refine gO ?_;first|refine C7 ?_)|(refine gT ?_;first|refine BX ?_)|(refine gK ?_;first|refine Gg ?_)|refine BB ?_|refine Be ?_|(show VC _ (.cond _ _ _) _ _;first|refine Ag rfl ?_|(refine Ay rfl ?_ ?_<;>intro h<;>have hq:=h<;>(try simp only[hqs] at hq)))|refine BV ?_)
 all_goals first
  |(exfalso;omega)
  |skip
 refine An (Am (l:=[]) (b:=[(9100,.pin 100 (r 100)),(100,.box [.row 102 (BH (B++CK w n)).length,.d (.int .i64 (B++CK w n).length),.d (.int .i64 0)]),(102,.row 5 1 (rowOf G9 (BH (B++CK w n))))]) (fun n=>if n=102 then 14102 else n) ?_ ?_ rfl (by(simp only[wfL,wfs,Ae,Ad];rfl))) (Ds BO .nil rfl (by repeat'(first|exact tt0|refine⟨rfl,?_⟩)))
 all_goals repeat'(first|exact tt0|refine⟨⟨_,rfl,?_⟩,?_⟩|exact .pin rfl|exact .Bc rfl Ai|refine .box ?_|exact .nil|refine .cons ?_ ?_|exact .d|exact .row rfl rfl|fail)
theorem KQ (B:List Bool) (w n:Nat) (hw:1<=w/\w<=32) (hn:n<2^w) (hB:B.length<=4000):FnW Tryz.prog 227 [.c (.ptr 100 0),AI w,AI n] [(100,.box [.row 101 (BH B).length,.d (.int .i64 B.length),.d (.int .i64 0)]),(101,.row 5 1 (rowOf G9 (BH B)))] [100] (.tup []) [(100,.box [.row 102 (BH (B++CK w n)).length,.d (.int .i64 (B++CK w n).length),.d (.int .i64 0)]),(102,.row 5 1 (rowOf G9 (BH (B++CK w n))))]:=by
 have h32:n<2^32:=AeE hn (Nat.pow_le_pow_right (by decide) hw.2);have hl:=ZA hn hw.2;have hle:=QY n h32;have d1:decide ((1:Int)<=(w:Int))=true:=Aed (by omega);have d2:decide ((w:Int)<=63)=true:=Aed (by omega);have d3:decide ((0:Int)<=(n:Int))=true:=Aed (by omega);have d4:decide (Uq n<=(w:Int))=true:=Aed hl.2;have hf:=Hn B w n _ _ d2 d4 (by omega) (by omega) hB;intro r;simp only[Cd,List.map_cons,List.map_nil,List.cons_append,List.nil_append,Nat.reduceAdd];refine FnS.Bu (enters_of Tryz.func227 (by kernel_rfl) rfl) Tryz.func227 rfl Tryz.ntmps227 Tryz.results227 rfl (by first|rfl|(simp only[AZ,wfL,AH,wfs,Ae,Ad];rfl)) rfl fun E=>?_
 refine AK ?_
 repeat'(first|(refine gR ?_;first|refine Aj rfl (by exact tt0) ?_|(refine gC ?_;first|refine Aa (hle) (gk rfl) rfl rfl rfl (by rfl) rfl (by exact Aw) rfl ?_|refine B5 (nmL []) [] [100] (hf) (gk rfl) rfl rfl (by(repeat'(first|exact .nil|refine .cons ?_ ?_|exact .w (.c (.ptr rfl)) rfl|exact .r (.of0 (.c .d))))<;>fail) (by(repeat'(first|exact tt0|refine⟨⟨_,rfl,?_⟩,?_⟩|exact .Bc rfl Ai|refine .box ?_|exact .nil|refine .cons ?_ ?_|exact .d|exact .row rfl rfl))<;>fail) rfl rfl rfl (by rfl) rfl (by(simp only[AZ,wfL,AH,wfs,Ae,Ad];rfl)) rfl rfl rfl (by(simp only[F2,List.map_cons,List.map_nil,Blk.ren,C.ren,Bw,B0,BZ,gW,D8,nmL,Nat.reduceBEq,Bool.or_false,Bool.or_true,Bool.false_or,Bool.true_or,cond_true,cond_false,Nat.reduceMul,Nat.reduceAdd])<;>rfl) (by(simp only[AV.ren,AV.Ik,List.map_cons,List.map_nil,C.ren,gW,D8,nmL,Nat.reduceBEq,Bool.or_false,Bool.or_true,Bool.false_or,Bool.true_or,cond_true,cond_false,Nat.reduceMul,Nat.reduceAdd])<;>rfl) rfl ?_)|(refine gV ?_;first|refine Ba (gk rfl) rfl ⟨_,rfl⟩ rfl (by exact wrap_u64 (by omega)) rfl ?_)|refine Az rfl (by assumption) ?_)|(refine gO ?_;first|refine C7 ?_)|(refine gT ?_;first|refine BX ?_)|refine BB ?_|refine Be ?_)
 refine An (Am (l:=[]) (b:=[(9100,.pin 100 (r 100)),(100,.box [.row 102 (BH (B++CK w n)).length,.d (.int .i64 (B++CK w n).length),.d (.int .i64 0)]),(102,.row 5 1 (rowOf G9 (BH (B++CK w n))))]) (fun n=>if n=102 then 29102 else n) ?_ ?_ rfl (by(simp only[wfL,wfs,Ae,Ad];rfl))) (Ds BO .nil rfl (by repeat'(first|exact tt0|refine⟨rfl,?_⟩)))
 all_goals repeat'(first|exact tt0|refine⟨⟨_,rfl,?_⟩,?_⟩|exact .pin rfl|exact .Bc rfl Ai|refine .box ?_|exact .nil|refine .cons ?_ ?_|exact .d|exact .row rfl rfl|fail)
theorem Li (B:List Bool) (b:Bool) (hB:B.length<=4000):FnW Tryz.prog 228 [.c (.ptr 100 0),AB b] [(100,.box [.row 101 (BH B).length,.d (.int .i64 B.length),.d (.int .i64 0)]),(101,.row 5 1 (rowOf G9 (BH B)))] [100] (.tup []) [(100,.box [.row 102 (BH (B++[b])).length,.d (.int .i64 (B++[b]).length),.d (.int .i64 0)]),(102,.row 5 1 (rowOf G9 (BH (B++[b]))))]:=by
 have h1:=Hn B 1 1 true true rfl rfl (by decide) (by decide) hB;have h0:=Hn B 1 0 true true rfl rfl (by decide) (by decide) hB;rw[show CK 1 1=[true] from rfl] at h1;rw[show CK 1 0=[false] from rfl] at h0;intro r;simp only[Cd,List.map_cons,List.map_nil,List.cons_append,List.nil_append,Nat.reduceAdd];refine FnS.Bu (enters_of Tryz.func228 (by kernel_rfl) rfl) Tryz.func228 rfl Tryz.ntmps228 Tryz.results228 rfl (by first|rfl|(simp only[AZ,wfL,AH,wfs,Ae,Ad];rfl)) rfl fun E=>?_
 refine AK ?_;cases b with
 |true=>
  repeat'(first|(refine gR ?_;first|refine Aj rfl (by exact tt0) ?_|(refine gC ?_;first|refine B5 (nmL []) [] [100] (h1) (gk rfl) rfl rfl (by(repeat'(first|exact .nil|refine .cons ?_ ?_|exact .w (.c (.ptr rfl)) rfl|exact .r (.of0 (.c .d))))<;>fail) (by(repeat'(first|exact tt0|refine⟨⟨_,rfl,?_⟩,?_⟩|exact .Bc rfl Ai|refine .box ?_|exact .nil|refine .cons ?_ ?_|exact .d|exact .row rfl rfl))<;>fail) rfl rfl rfl (by rfl) rfl (by(simp only[AZ,wfL,AH,wfs,Ae,Ad];rfl)) rfl rfl rfl (by(simp only[F2,List.map_cons,List.map_nil,Blk.ren,C.ren,Bw,B0,BZ,gW,D8,nmL,Nat.reduceBEq,Bool.or_false,Bool.or_true,Bool.false_or,Bool.true_or,cond_true,cond_false,Nat.reduceMul,Nat.reduceAdd])<;>rfl) (by(simp only[AV.ren,AV.Ik,List.map_cons,List.map_nil,C.ren,gW,D8,nmL,Nat.reduceBEq,Bool.or_false,Bool.or_true,Bool.false_or,Bool.true_or,cond_true,cond_false,Nat.reduceMul,Nat.reduceAdd])<;>rfl) rfl ?_))|(refine gO ?_;first|refine C7 ?_)|(refine gT ?_;first|refine BX ?_)|refine BB ?_|refine Be ?_|(show VC _ (.cond _ _ _) _ _;first|refine Ah rfl ?_))
  refine An (Am (l:=[]) (b:=[(9100,.pin 100 (r 100)),(100,.box [.row 102 (BH (B++[true])).length,.d (.int .i64 (B++[true]).length),.d (.int .i64 0)]),(102,.row 5 1 (rowOf G9 (BH (B++[true]))))]) (fun n=>if n=102 then 8102 else n) ?_ ?_ rfl (by(simp only[wfL,wfs,Ae,Ad];rfl))) (Ds BO .nil rfl (by repeat'(first|exact tt0|refine⟨rfl,?_⟩)))
  all_goals repeat'(first|exact tt0|refine⟨⟨_,rfl,?_⟩,?_⟩|exact .pin rfl|exact .Bc rfl Ai|refine .box ?_|exact .nil|refine .cons ?_ ?_|exact .d|exact .row rfl rfl|fail)
 |false=>
  repeat'(first|(refine gR ?_;first|refine Aj rfl (by exact tt0) ?_|(refine gC ?_;first|refine B5 (nmL []) [] [100] (h0) (gk rfl) rfl rfl (by(repeat'(first|exact .nil|refine .cons ?_ ?_|exact .w (.c (.ptr rfl)) rfl|exact .r (.of0 (.c .d))))<;>fail) (by(repeat'(first|exact tt0|refine⟨⟨_,rfl,?_⟩,?_⟩|exact .Bc rfl Ai|refine .box ?_|exact .nil|refine .cons ?_ ?_|exact .d|exact .row rfl rfl))<;>fail) rfl rfl rfl (by rfl) rfl (by(simp only[AZ,wfL,AH,wfs,Ae,Ad];rfl)) rfl rfl rfl (by(simp only[F2,List.map_cons,List.map_nil,Blk.ren,C.ren,Bw,B0,BZ,gW,D8,nmL,Nat.reduceBEq,Bool.or_false,Bool.or_true,Bool.false_or,Bool.true_or,cond_true,cond_false,Nat.reduceMul,Nat.reduceAdd])<;>rfl) (by(simp only[AV.ren,AV.Ik,List.map_cons,List.map_nil,C.ren,gW,D8,nmL,Nat.reduceBEq,Bool.or_false,Bool.or_true,Bool.false_or,Bool.true_or,cond_true,cond_false,Nat.reduceMul,Nat.reduceAdd])<;>rfl) rfl ?_))|(refine gO ?_;first|refine C7 ?_)|(refine gT ?_;first|refine BX ?_)|refine BB ?_|refine Be ?_|(show VC _ (.cond _ _ _) _ _;first|refine Ag rfl ?_)|refine Ex ?_)
  refine An (Am (l:=[]) (b:=[(9100,.pin 100 (r 100)),(100,.box [.row 102 (BH (B++[false])).length,.d (.int .i64 (B++[false]).length),.d (.int .i64 0)]),(102,.row 5 1 (rowOf G9 (BH (B++[false]))))]) (fun n=>if n=102 then 8102 else n) ?_ ?_ rfl (by(simp only[wfL,wfs,Ae,Ad];rfl))) (Ds BO .nil rfl (by repeat'(first|exact tt0|refine⟨rfl,?_⟩)))
  all_goals repeat'(first|exact tt0|refine⟨⟨_,rfl,?_⟩,?_⟩|exact .pin rfl|exact .Bc rfl Ai|refine .box ?_|exact .nil|refine .cons ?_ ?_|exact .d|exact .row rfl rfl|fail)
def OH (s:ByteArray) (i:Nat):Nat:=(s.data.toList.getD i 0).toNat
theorem Vv (s:ByteArray) (i:Nat):bAt s i=(OH s i:Int):=rfl
theorem Vu (s:ByteArray) (i:Nat):OH s i<256:=(s.data.toList.getD i 0).toNat_lt
def KL (B:List Bool) (s:ByteArray):Nat->List Bool
 |0=>B
 |k+1=>KL B s k++CK 8 (OH s k)
theorem JJ (B:List Bool) (s:ByteArray):∀k,(KL B s k).length=B.length+8*k
 |0=>rfl
 |k+1=>by rw[KL,Aeh,JJ B s k,Gs];omega
def KM (B:List Bool) (w:Nat) (s:ByteArray):List Bool:=KL (B++CK w s.size) s s.size
theorem Nh (B:List Bool) (w:Nat) (s:ByteArray):(KM B w s).length=B.length+w+8*s.size:=by
 rw[KM,JJ,Aeh,Gs]
set_option maxHeartbeats 2000000 in
theorem R4 (B:List Bool) (m w:Nat) (s:ByteArray) (hm:1<=m/\m<=255) (hmw:max 1 (Uq m)=w) (hs:s.size<=m) (hsw:s.size<2^w) (hw:w<=8) (hB:B.length<=1000):FnW Tryz.prog 229 [.c (.ptr 100 0),AI m,AD (.str s)] [(100,.box [.row 101 (BH B).length,.d (.int .i64 B.length),.d (.int .i64 0)]),(101,.row 5 1 (rowOf G9 (BH B)))] [100] (.tup []) [(100,.box [.row 102 (BH (KM B w s)).length,.d (.int .i64 (KM B w s).length),.d (.int .i64 0)]),(102,.row 5 1 (rowOf G9 (BH (KM B w s))))]:=by
 have hwd:=Px m (by omega);rw[hmw] at hwd;have hlm:=So m;rw[Aed (show(1:Int)<=(m:Int)/\(m:Int)<=4095 by omega)] at hlm;have hpt:=J0 B w s.size (by omega) (by omega) (by omega);have d1:decide ((m:Int)<(s.size:Int))=false:=Aee (by omega);have d2:decide (524288<(B.length:Int)+(w:Int)+8*(s.size:Int))=false:=Aee (by omega);intro r;simp only[Cd,List.map_cons,List.map_nil,List.cons_append,List.nil_append,Nat.reduceAdd];refine FnS.Bu (enters_of Tryz.func229 (by kernel_rfl) rfl) Tryz.func229 rfl Tryz.ntmps229 Tryz.results229 rfl (by first|rfl|(simp only[AZ,wfL,AH,wfs,Ae,Ad];rfl)) rfl fun E=>?_
 refine AK ?_
 repeat'(first|(refine gR ?_;first|refine Aj rfl (by first|exact tt0|omega) ?_|(refine gC ?_;first|refine Aa (hwd) (gk rfl) rfl rfl rfl (by rfl) rfl (by exact Aw) rfl ?_|refine Aa (hlm) (gk rfl) rfl rfl rfl (by rfl) rfl (by exact Aw) rfl ?_|refine B5 (nmL []) [] [100] (hpt) (gk rfl) rfl rfl (by(repeat'(first|exact .nil|refine .cons ?_ ?_|exact .w (.c (.ptr rfl)) rfl|exact .r (.of0 (.c .d))))<;>fail) (by(repeat'(first|exact tt0|refine⟨⟨_,rfl,?_⟩,?_⟩|exact .Bc rfl Ai|refine .box ?_|exact .nil|refine .cons ?_ ?_|exact .d|exact .row rfl rfl))<;>fail) rfl rfl rfl (by rfl) rfl (by(simp only[AZ,wfL,AH,wfs,Ae,Ad];rfl)) rfl rfl rfl (by(simp only[F2,List.map_cons,List.map_nil,Blk.ren,C.ren,Bw,B0,BZ,gW,D8,nmL,Nat.reduceBEq,Bool.or_false,Bool.or_true,Bool.false_or,Bool.true_or,cond_true,cond_false,Nat.reduceMul,Nat.reduceAdd])<;>rfl) (by(simp only[AV.ren,AV.Ik,List.map_cons,List.map_nil,C.ren,gW,D8,nmL,Nat.reduceBEq,Bool.or_false,Bool.or_true,Bool.false_or,Bool.true_or,cond_true,cond_false,Nat.reduceMul,Nat.reduceAdd])<;>rfl) rfl ?_)|(refine gN ?_;first|refine Ak (gk rfl) rfl rfl ?_)|(refine gV ?_;first|refine Ba (gk rfl) rfl ⟨_,rfl⟩ rfl (by exact wrap_u64 (by omega)) rfl ?_)|refine Az rfl (by assumption) ?_)|(refine gO ?_;first|refine C7 ?_|refine Ap (by kernel_rfl) ?_)|(refine gT ?_;first|refine BX ?_)|refine BB ?_|refine Be ?_|refine Cp ?_|(show VC _ (.cond _ _ _) _ _;first|refine Ag rfl ?_|refine At rfl (by assumption) ?_)|refine BV ?_)
 refine AA (ι:=Nat) (fun k=>AS [(0,.c (.ptr 100 0)),(2,AD (.str s)),(15,AI s.size),(16,AI k)] [(9100,.pin 100 (r 100)),(100,.box [.row 101 (BH (KL (B++CK w s.size) s k)).length,.d (.int .i64 (KL (B++CK w s.size) s k).length),.d (.int .i64 0)]),(101,.row 5 1 (rowOf G9 (BH (KL (B++CK w s.size) s k))))]) (fun k=>k<=s.size) (fun k=>s.size-k) 0 (AeV _) ?_ ?_
 ·refine Am (fun n=>if n=101 then 13102 else n) ?_ ?_ rfl (by(simp only[wfL,wfs,Ae,Ad];rfl))
  all_goals repeat'(first|exact tt0|refine⟨⟨_,rfl,?_⟩,?_⟩|exact .c .d|exact .c (.ptr rfl)|exact .pin rfl|exact .Bc rfl Ai|refine .box ?_|exact .nil|refine .cons ?_ ?_|exact .d|exact .row rfl rfl|fail)
 ·intro k hk;have htl:=JJ (B++CK w s.size) s k;rw[Aeh,Gs] at htl;rcases AeW k s.size with hlt|hge
  ·have dlt:decide ((k:Int)<(s.size:Int))=true:=Aed (by omega);have hb:=Vu s k;have hb':0<=bAt s k/\bAt s k<256:=Hx s k;have hk8:=J0 (KL (B++CK w s.size) s k) 8 (OH s k) (by decide) (by omega) (by omega);rw[<-Vv] at hk8
   repeat'(first|(refine gR ?_;first|refine Aj rfl (by first|exact tt0|omega) ?_|(refine gC ?_;first|refine B5 (nmL []) [] [100] (hk8) (gk rfl) rfl rfl (by(repeat'(first|exact .nil|refine .cons ?_ ?_|exact .w (.c (.ptr rfl)) rfl|exact .r (.of0 (.c .d))))<;>fail) (by(repeat'(first|exact tt0|refine⟨⟨_,rfl,?_⟩,?_⟩|exact .Bc rfl Ai|refine .box ?_|exact .nil|refine .cons ?_ ?_|exact .d|exact .row rfl rfl))<;>fail) rfl rfl rfl (by rfl) rfl (by(simp only[AZ,wfL,AH,wfs,Ae,Ad];rfl)) rfl rfl rfl (by(simp only[F2,List.map_cons,List.map_nil,Blk.ren,C.ren,Bw,B0,BZ,gW,D8,nmL,Nat.reduceBEq,Bool.or_false,Bool.or_true,Bool.false_or,Bool.true_or,cond_true,cond_false,Nat.reduceMul,Nat.reduceAdd])<;>rfl) (by(simp only[AV.ren,AV.Ik,List.map_cons,List.map_nil,C.ren,gW,D8,nmL,Nat.reduceBEq,Bool.or_false,Bool.or_true,Bool.false_or,Bool.true_or,cond_true,cond_false,Nat.reduceMul,Nat.reduceAdd])<;>rfl) rfl ?_)|(refine gX ?_;first|refine Df (gk rfl) rfl rfl rfl (by omega) (by omega) (by exact(Int.toNat_natCast _).symm) rfl ?_)|(refine gV ?_;first|refine Ba (gk rfl) rfl ⟨_,rfl⟩ rfl (by exact wrap_u64 (by omega)) rfl ?_))|(refine gO ?_;first|refine C7 ?_)|(refine gT ?_;first|refine BX ?_)|(refine gK ?_;first|refine Gg ?_)|refine BB ?_|refine Be ?_|(show VC _ (.cond _ _ _) _ _;first|refine Ah rfl ?_|refine At rfl (by assumption) ?_)|refine BV ?_|refine Ex ?_)
   refine⟨k+1,by omega,by omega,?_⟩;rw[show KL (B++CK w s.size) s (k+1)=KL (B++CK w s.size) s k++CK 8 (OH s k) from rfl];refine Am (fun n=>if n=101 then 24102 else n) ?_ ?_ rfl (by(simp only[wfL,wfs,Ae,Ad];rfl))
   all_goals repeat'(first|exact tt0|refine⟨⟨_,rfl,?_⟩,?_⟩|exact .c .d|exact .c (.ptr rfl)|exact .pin rfl|exact .Bc rfl Ai|refine .box ?_|exact .nil|refine .cons ?_ ?_|exact .d|exact .row rfl rfl|fail)
  ·have dlt:decide ((k:Int)<(s.size:Int))=false:=Aee (by omega);have hk':k=s.size:=by omega
   subst hk'
   repeat'(first|refine sB ?_|refine Aj rfl (by exact tt0) ?_|(refine gD ?_;first|refine Ag rfl ?_|refine At rfl (by assumption) ?_)|fail)
   refine An (Am (l:=[]) (b:=[(9100,.pin 100 (r 100)),(100,.box [.row 102 (BH (KM B w s)).length,.d (.int .i64 (KM B w s).length),.d (.int .i64 0)]),(102,.row 5 1 (rowOf G9 (BH (KM B w s))))]) (fun n=>if n=102 then 101 else n) ?_ ?_ rfl (by(simp only[wfL,wfs,Ae,Ad];rfl))) (Ds BO .nil rfl (by repeat'(first|exact tt0|refine⟨rfl,?_⟩)))
   all_goals repeat'(first|exact tt0|refine⟨⟨_,rfl,?_⟩,?_⟩|exact .pin rfl|exact .Bc rfl Ai|refine .box ?_|exact .nil|refine .cons ?_ ?_|exact .d|exact .row rfl rfl|fail)
theorem Pz (B:List Bool) (hB:B.length<=4000):FnW Tryz.prog 231 [.c (.ptr 100 0)] [(100,.box [.row 101 (BH B).length,.d (.int .i64 B.length),.d (.int .i64 0)]),(101,.row 5 1 (rowOf G9 (BH B)))] [100,101] (.tup [AD (.str (mkS (BH B))),AI 0]) [(100,.box [.row 101 (BH B).length,.d (.int .i64 B.length),.d (.int .i64 0)]),(101,.row 5 1 (rowOf G9 (BH B)))]:=by
 intro r;simp only[Cd,List.map_cons,List.map_nil,List.cons_append,List.nil_append,Nat.reduceAdd];refine FnS.Bu (enters_of Tryz.func231 (by kernel_rfl) rfl) Tryz.func231 rfl Tryz.ntmps231 Tryz.results231 rfl (by first|rfl|(simp only[AZ,wfL,AH,wfs,Ae,Ad];rfl)) rfl fun E=>?_
 refine AK ?_
 repeat'(first|refine sB ?_|(refine gV ?_;first|refine K4 (gk rfl) rfl rfl (by rfl) rfl rfl rfl rfl ?_)|refine Aj rfl (by exact tt0) ?_|(refine gN ?_;first|refine Ak (gk rfl) rfl rfl ?_)|(refine gD ?_;first|refine Ag rfl ?_)|fail)
 refine An (Am (l:=[(2,AD (.str (mkS (BH B)))),(3,AI 0)]) (b:=[(9100,.pin 100 (r 100)),(9101,.pin 101 (r 101)),(100,.box [.row 101 (BH B).length,.d (.int .i64 B.length),.d (.int .i64 0)]),(101,.row 5 1 (rowOf G9 (BH B)))]) (fun n=>n) ?_ ?_ rfl (by(simp only[wfL,wfs,Ae,Ad];rfl))) (Ds Ab (.tmp rfl rfl (.tmp rfl rfl .nil)) rfl (by repeat'(first|exact tt0|refine⟨rfl,?_⟩)))
 all_goals repeat'(first|exact tt0|refine⟨⟨_,rfl,?_⟩,?_⟩|exact .c .d|exact .pin rfl|exact .Bc rfl Ai|refine .box ?_|exact .nil|refine .cons ?_ ?_|exact .d|exact .row rfl rfl|fail)
def bcn (src slot rank epoch:Nat) (d:ByteArray):Fr:=⟨3,src,-1,0,0,0,0,0,slot,rank,epoch,d⟩
abbrev Ad3:AV:=.agg [.d (.int .i64 0),.d (.int .i64 0),.d (.int .i64 0),.d .Dh]
abbrev Acq (b:Bool):AV:=.agg [.d (.int .i64 0),.d (.bool b),.d (.str ⟨#[]⟩),.d (.int .i64 0),.d (.int .i64 0),.d (.int .i64 0),.d .Dh]
theorem J3:FnS Tryz.prog 230 [Ad3] [] (AB true) []:=by
 refine fb Tryz.func230 (by kernel_rfl) rfl Tryz.ntmps230 Tryz.results230 rfl rfl rfl rfl fun E hS=>?_
 repeat'(first|refine sB ?_|refine Aj rfl (by exact tt0) ?_|fail)
 exact As Ab rfl rfl
theorem Ua (b:Bool):FnS Tryz.prog 225 [Acq b] [] (AI 0) []:=by
 refine fb Tryz.func225 (by kernel_rfl) rfl Tryz.ntmps225 Tryz.results225 rfl rfl rfl rfl fun E hS=>?_
 repeat'(first|refine sC ?_|refine Aj rfl (by exact tt0) ?_|(refine gC ?_;first|refine Aa (J3) (gk rfl) rfl rfl rfl (by rfl) rfl (by exact Aw) rfl ?_)|(refine gD ?_;first|refine Ag rfl ?_)|fail)
 exact AG Ab rfl rfl
def Acr (b:Bool):List Bool:=KM (CK 5 0++[b]) 4 ⟨#[]⟩++[false]
def Zr (b:Bool):ByteArray:=mkS (BH (Acr b))
theorem WD (b:Bool):(Acr b).length=11:=by
 rw[Acr,Aeh,Nh,Aeh,Gs];rfl
set_option maxHeartbeats 2000000 in
theorem T9 (b:Bool):FnS Tryz.prog 167 [Acq b] [] (.tup [AD (.str (Zr b)),AI 0]) []:=by
 have l1:=Gs 5 0;have u1:=KQ [] 5 0 (by decide) (by decide) (by decide);have u2:=Li (CK 5 0) b (by omega);have u3:=R4 (CK 5 0++[b]) 8 4 ⟨#[]⟩ (by decide) (by rw[Ac6];rfl) (by decide) (by decide) (by decide) (by rw[Aeh];simp[l1]);have u4:=Li (KM (CK 5 0++[b]) 4 ⟨#[]⟩) false (by rw[Nh,Aeh,l1,show(⟨#[]⟩:ByteArray).size=0 from rfl];simp);have u5:=Pz (Acr b) (by rw[WD];decide);rw[List.nil_append] at u1;refine fb Tryz.func167 (by kernel_rfl) rfl Tryz.ntmps167 Tryz.results167 rfl rfl rfl rfl fun E hS=>?_
 repeat'(first|refine sR ?_|refine Aj rfl (by exact tt0) ?_|(refine gC ?_;first|refine Aa (Ua b) (gk rfl) rfl rfl rfl (by rfl) rfl (by exact Aw) rfl ?_|refine Aa (R6) (gk rfl) rfl rfl rfl (by rfl) rfl (by((simp only[Ep,List.map_cons,List.map_nil,Blk.shift,Cr])<;>rfl)) rfl ?_)|refine sq 5 rfl ?_|(refine gD ?_;first|refine Ag rfl ?_)|fail)
 refine VC.le (σ':=AS [(1,.c (.ptr 1 0)),(5,.c (.ptr 100 0))] [(1,.box [.d (.int .i64 0),.d (.bool b),.d (.str ⟨#[]⟩),.d (.int .i64 0),.d (.int .i64 0),.d (.int .i64 0),.d .Dh]),(100,.box [.row 101 0,.d (.int .i64 0),.d (.int .i64 0)]),(101,.row 5 1 (rowOf G9 []))]) ?_ ?_
 ·refine Am (fun n=>if n=100 then 13100 else if n=101 then 13101 else n) ?_ ?_ rfl (by rfl)
  all_goals repeat'(first|exact tt0|refine⟨⟨_,rfl,?_⟩,?_⟩|exact .c (.ptr rfl)|exact .Bh rfl rfl|exact .Bc rfl Ai|refine .box ?_|exact .nil|refine .cons ?_ ?_|exact .d|exact .row rfl rfl|fail)
 repeat'(first|(refine gR ?_;first|refine Aj rfl (by exact tt0) ?_|(refine gC ?_;first|refine B5 (nmL []) [] [100] (u1) (gk rfl) rfl rfl (by(repeat'(first|exact .nil|refine .cons ?_ ?_|exact .w (.c (.ptr rfl)) rfl|exact .r (.of0 (.c .d))))<;>fail) (by(repeat'(first|exact tt0|refine⟨⟨_,rfl,?_⟩,?_⟩|exact .Bc rfl Ai|refine .box ?_|exact .nil|refine .cons ?_ ?_|exact .d|exact .row rfl rfl))<;>fail) rfl rfl rfl (by rfl) rfl (by rfl) rfl rfl rfl (by(simp only[F2,List.map_cons,List.map_nil,Blk.ren,C.ren,Bw,B0,BZ,gW,D8,nmL,Nat.reduceBEq,Bool.or_false,Bool.or_true,Bool.false_or,Bool.true_or,cond_true,cond_false,Nat.reduceMul,Nat.reduceAdd])<;>rfl) (by(simp only[AV.ren,AV.Ik,List.map_cons,List.map_nil,C.ren,gW,D8,nmL,Nat.reduceBEq,Bool.or_false,Bool.or_true,Bool.false_or,Bool.true_or,cond_true,cond_false,Nat.reduceMul,Nat.reduceAdd])<;>rfl) rfl ?_))|(refine gO ?_;first|refine C7 ?_)|(refine gT ?_;first|refine BX ?_)|(show VC _ (.seq _ _) _ _;(fail_if_success (show VC _ (.seq (.seq (.region 6 _ _) _) _) _ _));(fail_if_success (show VC _ (.seq (.region 6 _ _) _) _ _));refine BB ?_)|refine Be ?_)
 repeat'(first|(refine gR ?_;first|refine Aj rfl (by exact tt0) ?_|(refine gC ?_;first|refine B5 (nmL [(101,17102)]) [] [100] (u2) (gk rfl) rfl rfl (by(repeat'(first|exact .nil|refine .cons ?_ ?_|exact .w (.c (.ptr rfl)) rfl|exact .r (.of0 (.c .d))))<;>fail) (by(repeat'(first|exact tt0|refine⟨⟨_,rfl,?_⟩,?_⟩|exact .Bc rfl Ai|refine .box ?_|exact .nil|refine .cons ?_ ?_|exact .d|exact .row rfl rfl))<;>fail) rfl rfl rfl (by rfl) rfl (by(simp only[AZ,wfL,AH,wfs,Ae,Ad];rfl)) rfl rfl rfl (by(simp only[F2,List.map_cons,List.map_nil,Blk.ren,C.ren,Bw,B0,BZ,gW,D8,nmL,Nat.reduceBEq,Bool.or_false,Bool.or_true,Bool.false_or,Bool.true_or,cond_true,cond_false,Nat.reduceMul,Nat.reduceAdd])<;>rfl) (by(simp only[AV.ren,AV.Ik,List.map_cons,List.map_nil,C.ren,gW,D8,nmL,Nat.reduceBEq,Bool.or_false,Bool.or_true,Bool.false_or,Bool.true_or,cond_true,cond_false,Nat.reduceMul,Nat.reduceAdd])<;>rfl) rfl ?_))|(refine gO ?_;first|refine C7 ?_)|(refine gT ?_;first|refine BX ?_)|(show VC _ (.seq _ _) _ _;(fail_if_success (show VC _ (.seq (.seq (.region 7 _ _) _) _) _ _));(fail_if_success (show VC _ (.seq (.region 7 _ _) _) _ _));refine BB ?_)|refine Be ?_)
 repeat'(first|(refine gR ?_;first|refine Aj rfl (by exact tt0) ?_|(refine gC ?_;first|refine B5 (nmL [(101,21102)]) [] [100] (u3) (gk rfl) rfl rfl (by(repeat'(first|exact .nil|refine .cons ?_ ?_|exact .w (.c (.ptr rfl)) rfl|exact .r (.of0 (.c .d))))<;>fail) (by(repeat'(first|exact tt0|refine⟨⟨_,rfl,?_⟩,?_⟩|exact .Bc rfl Ai|refine .box ?_|exact .nil|refine .cons ?_ ?_|exact .d|exact .row rfl rfl))<;>fail) rfl rfl rfl (by rfl) rfl (by(simp only[AZ,wfL,AH,wfs,Ae,Ad];rfl)) rfl rfl rfl (by(simp only[F2,List.map_cons,List.map_nil,Blk.ren,C.ren,Bw,B0,BZ,gW,D8,nmL,Nat.reduceBEq,Bool.or_false,Bool.or_true,Bool.false_or,Bool.true_or,cond_true,cond_false,Nat.reduceMul,Nat.reduceAdd])<;>rfl) (by(simp only[AV.ren,AV.Ik,List.map_cons,List.map_nil,C.ren,gW,D8,nmL,Nat.reduceBEq,Bool.or_false,Bool.or_true,Bool.false_or,Bool.true_or,cond_true,cond_false,Nat.reduceMul,Nat.reduceAdd])<;>rfl) rfl ?_))|(refine gO ?_;first|refine C7 ?_)|(refine gT ?_;first|refine BX ?_)|(show VC _ (.seq _ _) _ _;(fail_if_success (show VC _ (.seq (.seq (.region 8 _ _) _) _) _ _));(fail_if_success (show VC _ (.seq (.region 8 _ _) _) _ _));refine BB ?_)|refine Be ?_)
 repeat'(first|(refine gR ?_;first|refine Aj rfl (by exact tt0) ?_|(refine gC ?_;first|refine Aa (J3) (gk rfl) rfl rfl rfl (by rfl) rfl (by exact Aw) rfl ?_|refine B5 (nmL [(101,25102)]) [] [100] (u4) (gk rfl) rfl rfl (by(repeat'(first|exact .nil|refine .cons ?_ ?_|exact .w (.c (.ptr rfl)) rfl|exact .r (.of0 (.c .d))))<;>fail) (by(repeat'(first|exact tt0|refine⟨⟨_,rfl,?_⟩,?_⟩|exact .Bc rfl Ai|refine .box ?_|exact .nil|refine .cons ?_ ?_|exact .d|exact .row rfl rfl))<;>fail) rfl rfl rfl (by rfl) rfl (by(simp only[AZ,wfL,AH,wfs,Ae,Ad];rfl)) rfl rfl rfl (by(simp only[F2,List.map_cons,List.map_nil,Blk.ren,C.ren,Bw,B0,BZ,gW,D8,nmL,Nat.reduceBEq,Bool.or_false,Bool.or_true,Bool.false_or,Bool.true_or,cond_true,cond_false,Nat.reduceMul,Nat.reduceAdd])<;>rfl) (by(simp only[AV.ren,AV.Ik,List.map_cons,List.map_nil,C.ren,gW,D8,nmL,Nat.reduceBEq,Bool.or_false,Bool.or_true,Bool.false_or,Bool.true_or,cond_true,cond_false,Nat.reduceMul,Nat.reduceAdd])<;>rfl) rfl ?_))|(refine gO ?_;first|refine C7 ?_)|(refine gT ?_;first|refine BX ?_)|(show VC _ (.seq _ _) _ _;(fail_if_success (show VC _ (.seq (.seq (.region 9 _ _) _) _) _ _));(fail_if_success (show VC _ (.seq (.region 9 _ _) _) _ _));refine BB ?_)|refine Be ?_)
 repeat'(first|(refine gR ?_;first|refine Aj rfl (by exact tt0) ?_|(refine gC ?_;first|refine Aa (J3) (gk rfl) rfl rfl rfl (by rfl) rfl (by exact Aw) rfl ?_|refine B5 (nmL [(101,31102)]) [] [100,101] (u5) (gk rfl) rfl rfl (by(repeat'(first|exact .nil|refine .cons ?_ ?_|exact .w (.c (.ptr rfl)) rfl))<;>fail) (by(repeat'(first|exact tt0|refine⟨⟨_,rfl,?_⟩,?_⟩|exact .Bc rfl Ai|refine .box ?_|exact .nil|refine .cons ?_ ?_|exact .d|exact .row rfl rfl))<;>fail) rfl rfl rfl (by rfl) rfl (by(simp only[AZ,wfL,AH,wfs,Ae,Ad];rfl)) rfl rfl rfl (by(simp only[F2,List.map_cons,List.map_nil,Blk.ren,C.ren,Bw,B0,BZ,gW,D8,nmL,Nat.reduceBEq,Bool.or_false,Bool.or_true,Bool.false_or,Bool.true_or,cond_true,cond_false,Nat.reduceMul,Nat.reduceAdd])<;>rfl) (by(simp only[AV.ren,AV.Ik,List.map_cons,List.map_nil,C.ren,gW,D8,nmL,Nat.reduceBEq,Bool.or_false,Bool.or_true,Bool.false_or,Bool.true_or,cond_true,cond_false,Nat.reduceMul,Nat.reduceAdd])<;>rfl) rfl ?_))|(refine gO ?_;first|refine C7 ?_)|(refine gT ?_;first|refine BX ?_)|refine BB ?_|refine Be ?_|(show VC _ (.cond _ _ _) _ _;first|refine Ag rfl ?_)|refine IN ?_|refine Ex ?_)
 exact Cx Ab rfl rfl rfl rfl
def AdW (s:Sta) (slot:Int) (c:TC):List D:=[.int .i64 s.tb.node,.int .i64 s.tb.len,tcs s.tb.cells,.int .i64 s.qu.Bk,pks s.qu.Af,hds s.held,sns s.seen,
 .int .i64 s.list,.int .i64 s.seq,.int .i64 s.Bm,.int .i64 s.tries,.int .i64 s.back,.int .i64 s.wait,.int .i64 s.CP,.int .i64 slot,
 .int .i64 c.slot,.int .i64 c.offset,.int .i64 c.kind,.bool c.send,.int .i64 c.peer,.int .i64 c.Ca]
abbrev wG (s:Sta) (slot:Int) (c:TC):Nat->D:=fun j=>(AdW s slot c).getD j .Dh
abbrev wP (s:Sta) (slot:Int) (c:TC):AV:=AD (.pt 21 (wG s slot c))
def wcs (s:Sta) (H S:C) (slot:Int) (c:TC):List C:=[.d (.int .i64 s.tb.node),.d (.int .i64 s.tb.len),.d (tcs s.tb.cells),.d (.int .i64 s.qu.Bk),.d (pks s.qu.Af),H,S,
 .d (.int .i64 s.list),.d (.int .i64 s.seq),.d (.int .i64 s.Bm),.d (.int .i64 s.tries),.d (.int .i64 s.back),.d (.int .i64 s.wait),.d (.int .i64 s.CP),.d (.int .i64 slot),
 .d (.int .i64 c.slot),.d (.int .i64 c.offset),.d (.int .i64 c.kind),.d (.bool c.send),.d (.int .i64 c.peer),.d (.int .i64 c.Ca)]
theorem KE {σ:St} {L:List Nat} {nm:Nat} {s:Sta} {H S:C} {slot:Int} {c:TC} (hL:nm∈L) (hb:σ (.b nm)=some (.k (.box (wcs s H S slot c)))) (hH:CR σ L H (.d (hds s.held))) (hS:CR σ L S (.d (sns s.seen))):
  AR Tryz.prog σ L (.c (.ptr nm 0)) (wP s slot c):=by
 refine .of0 (.c (.Ack hL hb (cf:=fun j=>(wcs s H S slot c).getD j (.d .Dh)) (fun j hj=>?_) (fun j hj=>?_)))
 ·have:j=0\/j=1\/j=2\/j=3\/j=4\/j=5\/j=6\/j=7\/j=8\/j=9\/j=10\/j=11\/j=12\/j=13\/j=14\/j=15\/j=16\/j=17\/j=18\/j=19\/j=20:=by omega
  rcases this with rfl|rfl|rfl|rfl|rfl|rfl|rfl|rfl|rfl|rfl|rfl|rfl|rfl|rfl|rfl|rfl|rfl|rfl|rfl|rfl|rfl<;>rfl
 ·have:j=0\/j=1\/j=2\/j=3\/j=4\/j=5\/j=6\/j=7\/j=8\/j=9\/j=10\/j=11\/j=12\/j=13\/j=14\/j=15\/j=16\/j=17\/j=18\/j=19\/j=20:=by omega
  rcases this with rfl|rfl|rfl|rfl|rfl|rfl|rfl|rfl|rfl|rfl|rfl|rfl|rfl|rfl|rfl|rfl|rfl|rfl|rfl|rfl|rfl<;>first|exact .d|exact hH|exact hS
abbrev EZ (p:Hd->Bool):List DV->DV->Prop:=fun ds r=>∃x:Hd,ds=[.agg x.enc]/\r=.d (.bool (p x))
theorem UC (l:List Hd) (p:Hd->Bool):FnS Tryz.prog 217 [AD (hds l),.clo (EZ p)] [] (AI (oI (Fl l p))) []:=by
 refine fb Tryz.func217 (by kernel_rfl) rfl Tryz.ntmps217 Tryz.results217 rfl rfl rfl rfl fun E hS=>?_
 refine BP (t:=0) rfl fun hb=>?_
 repeat'(first|refine sC ?_|refine Aj rfl (by exact tt0) ?_|fail)
 refine AA (ι:=Nat) (fun k=>AS [(0,AD (hds l)),(1,.clo (EZ p)),(7,AI l.length),(8,AI k)] []) (fun k=>k<=l.length/\∀i,i<k->p (l.getD i default)=false) (fun k=>l.length-k) 0 ⟨AeV _,fun i hi=>absurd hi (AeQ _)⟩ ?_ ?_
 ·exact B4 ⟨rfl,rfl,rfl,rfl,trivial⟩ trivial rfl
 ·intro k hk
  repeat'(first|refine sC ?_|refine Aj rfl (by first|exact tt0|omega) ?_|(refine gC ?_;first|refine EV (⟨_,rfl,rfl⟩) (gk rfl) rfl rfl rfl rfl ?_)|(refine gI ?_;first|refine Aq (gk rfl) rfl rfl rfl rfl rfl (by omega) rfl ?_)|(refine gD ?_;first|(refine Ay rfl ?_ ?_<;>intro h<;>have hq:=h<;>(try simp only[hqs] at hq)))|fail)
  ·refine AG Ab rfl ?_;rw[Er hk.2 (by omega) h];rfl
  ·refine⟨k+1,⟨by omega,fun i hi=>?_⟩,by omega,B4 ⟨rfl,rfl,rfl,rfl,trivial⟩ trivial rfl⟩;by_cases hik:i<k
   ·exact hk.2 i hik
   ·have:i=k:=by omega
    subst this;exact h
  ·refine AG Ab rfl ?_;have:k=l.length:=by omega
   subst this;rw[DI hk.2];rfl
theorem PS (x:Hd) (t:Int):FnS Tryz.prog 237 [hdA x,.ep (fun _=>.int .i64 t) 1] [] (AB (decide (x.Ca=t))) []:=by
 refine fb Tryz.func237 (by kernel_rfl) rfl Tryz.ntmps237 Tryz.results237 rfl rfl rfl rfl fun E hS=>?_
 repeat'(first|refine sB ?_|refine Aj rfl (by exact tt0) ?_|fail)
 all_goals exact As Ab rfl rfl
theorem Sy {σ:St} {t:Int} {n1:Nat} {L:List Nat} (hL:n1∈L) (h1:σ (.b n1)=some (.k (.box [.d (.int .i64 t)]))):AR Tryz.prog σ L (.fnc 237 [.ptr n1 0]) (.clo (EZ fun x=>decide (x.Ca=t))):=
 .fnc (eps:=[.ep (fun _=>.int .i64 t) 1]) (.cons (.ptr hL h1 (fun j hj=>by
  have:j=0:=by omega
  subst this;rfl)) .nil) (enters_of Tryz.func237 (by kernel_rfl) rfl)
  (by rintro _ _ ⟨x,rfl,rfl⟩;exact⟨rfl,PS x t⟩)
theorem IC (s:Sta) (slot:Int) (c:TC) (Ca:Int):FnS Tryz.prog 175 [wP s slot c,AI Ca] [] (AI (oI (Oa s.held Ca))) []:=by
 refine fb Tryz.func175 (by kernel_rfl) rfl Tryz.ntmps175 Tryz.results175 rfl rfl rfl rfl fun E hS=>?_
 repeat'(first|refine sB ?_|(refine gN ?_;first|refine A6 (gk rfl) rfl rfl ?_)|(show VR _ _ _ (⟨_,.fieldAddr _ _ _,_,_,_,_⟩ :: _) _ _ _;first|refine A0 (gk rfl) rfl rfl rfl rfl rfl ?_)|refine Aj rfl (by exact tt0) ?_|(refine gC ?_;first|refine AJ [3] (UC s.held (fun x=>decide (x.Ca=Ca))) (gk rfl) rfl (by(repeat'(first|exact .nil|refine .cons ?_ ?_|exact .of0 (.c .d)|exact(Sy (by simp) rfl)))<;>fail) (by rfl) rfl (by rfl) rfl (by rfl) rfl ?_)|fail)
 all_goals exact AG Ab rfl rfl
abbrev Jm (p:TC->Bool):List DV->DV->Prop:=fun ds r=>∃x:TC,ds=[.agg x.enc]/\r=.d (.bool (p x))
theorem ZH (l:List TC) (p:TC->Bool):FnS Tryz.prog 291 [AD (tcs l),.clo (Jm p)] [] (AI (oI (Fl l p))) []:=by
 refine fb Tryz.func291 (by kernel_rfl) rfl Tryz.ntmps291 Tryz.results291 rfl rfl rfl rfl fun E hS=>?_
 refine BP (t:=0) rfl fun hb=>?_
 repeat'(first|refine sC ?_|refine Aj rfl (by exact tt0) ?_|fail)
 refine AA (ι:=Nat) (fun k=>AS [(0,AD (tcs l)),(1,.clo (Jm p)),(7,AI l.length),(8,AI k)] []) (fun k=>k<=l.length/\∀i,i<k->p (l.getD i default)=false) (fun k=>l.length-k) 0 ⟨AeV _,fun i hi=>absurd hi (AeQ _)⟩ ?_ ?_
 ·exact B4 ⟨rfl,rfl,rfl,rfl,trivial⟩ trivial rfl
 ·intro k hk
  repeat'(first|refine sC ?_|refine Aj rfl (by first|exact tt0|omega) ?_|(refine gC ?_;first|refine EV (⟨_,rfl,rfl⟩) (gk rfl) rfl rfl rfl rfl ?_)|(refine gI ?_;first|refine Aq (gk rfl) rfl rfl rfl rfl rfl (by omega) rfl ?_)|(refine gD ?_;first|(refine Ay rfl ?_ ?_<;>intro h<;>have hq:=h<;>(try simp only[hqs] at hq)))|fail)
  ·refine AG Ab rfl ?_;rw[Er hk.2 (by omega) h];rfl
  ·refine⟨k+1,⟨by omega,fun i hi=>?_⟩,by omega,B4 ⟨rfl,rfl,rfl,rfl,trivial⟩ trivial rfl⟩;by_cases hik:i<k
   ·exact hk.2 i hik
   ·have:i=k:=by omega
    subst this;exact h
  ·refine AG Ab rfl ?_;have:k=l.length:=by omega
   subst this;rw[DI hk.2];rfl
theorem Ov (l:List TC) (p:TC->Bool):FnS Tryz.prog 243 [AD (tcs l),.clo (Jm p)] [] (AB (l.any p)) []:=by
 refine fb Tryz.func243 (by kernel_rfl) rfl Tryz.ntmps243 Tryz.results243 rfl rfl rfl rfl fun E hS=>?_
 repeat'(first|refine sB ?_|refine Aj rfl (by exact tt0) ?_|(refine gC ?_;first|refine AJ [] (ZH l p) (gk rfl) rfl (by(repeat'(first|exact .nil|refine .cons ?_ ?_|exact .of0 (.c .d)|exact .clo))<;>fail) (by rfl) rfl (by rfl) rfl (by rfl) rfl ?_)|fail)
 all_goals exact As Ab rfl (E1 _ _).symm
theorem Qh (c:TC) (p:Pk):FnS Tryz.prog 244 [tcA c,.ep (fun j=>p.enc.getD j .Dh) 6] [] (AB (decide (c.kind=2)&&c.send&&decide (c.peer=p.to))) []:=by
 refine fb Tryz.func244 (by kernel_rfl) rfl Tryz.ntmps244 Tryz.results244 rfl rfl rfl rfl fun E hS=>?_
 repeat'(first|refine sB ?_|refine Aj rfl (by exact tt0) ?_|(refine Ax rfl ?_ ?_<;>intro h<;>have hq:=h<;>(try simp only[hqs] at hq))|fail)
 all_goals(refine As Ab rfl ?_;simp_all)
theorem SZ {σ:St} {p:Pk} {n1:Nat} {L:List Nat} (hL:n1∈L) (h1:σ (.b n1)=some (.k (.box p.cs))):AR Tryz.prog σ L (.fnc 244 [.ptr n1 0]) (.clo (Jm fun c=>decide (c.kind=2)&&c.send&&decide (c.peer=p.to))):=
 .fnc (eps:=[.ep (fun j=>p.enc.getD j .Dh) 6]) (.cons (.ptr hL h1 (fun j hj=>by
  have:j=0\/j=1\/j=2\/j=3\/j=4\/j=5:=by omega
  rcases this with rfl|rfl|rfl|rfl|rfl|rfl<;>rfl)) .nil) (enters_of Tryz.func244 (by kernel_rfl) rfl)
  (by rintro _ _ ⟨x,rfl,rfl⟩;exact⟨rfl,Qh x p⟩)
theorem SY (p:Pk) (s:Sta) (slot:Int) (c:TC):FnS Tryz.prog 242 [pkA p,.ep (fun _=>.pt 21 (wG s slot c)) 1] [] (AB (decide (p.to=-1)||!Xy s.tb p.to)) []:=by
 refine fb Tryz.func242 (by kernel_rfl) rfl Tryz.ntmps242 Tryz.results242 rfl rfl rfl rfl fun E hS=>?_
 repeat'(first|refine sB ?_|(refine gN ?_;first|refine A6 (gk rfl) rfl rfl ?_)|(show VR _ _ _ (⟨_,.fieldAddr _ _ _,_,_,_,_⟩ :: _) _ _ _;first|refine A0 (gk rfl) rfl rfl rfl rfl rfl ?_)|refine Aj rfl (by exact tt0) ?_|(refine gC ?_;first|refine AJ [2] (Ov s.tb.cells (fun c=>decide (c.kind=2)&&c.send&&decide (c.peer=p.to))) (gk rfl) rfl (by(repeat'(first|exact .nil|refine .cons ?_ ?_|exact .of0 (.c .d)|exact(SZ (by simp) rfl)))<;>fail) (by rfl) rfl (by rfl) rfl (by rfl) rfl ?_)|(refine Ax rfl ?_ ?_<;>intro h<;>have hq:=h<;>(try simp only[hqs] at hq))|fail)
 all_goals(refine As Ab rfl ?_;unfold Xy;simp_all)
theorem OD {σ:St} {s:Sta} {slot:Int} {c:TC} {n1:Nat} {L:List Nat} (hL:n1∈L) (h1:σ (.b n1)=some (.k (.box [.d (.pt 21 (wG s slot c))]))):AR Tryz.prog σ L (.fnc 242 [.ptr n1 0]) (.clo (BY fun p=>decide (p.to=-1)||!Xy s.tb p.to)):=
 .fnc (eps:=[.ep (fun _=>.pt 21 (wG s slot c)) 1]) (.cons (.ptr hL h1 (fun j hj=>by
  have:j=0:=by omega
  subst this;rfl)) .nil) (enters_of Tryz.func242 (by kernel_rfl) rfl)
  (by rintro _ _ ⟨x,rfl,rfl⟩;exact⟨rfl,SY x s slot c⟩)
theorem Cb (s:Sta) (slot:Int) (c:TC):FnS Tryz.prog 178 [wP s slot c] [] (.tup [pkA (Aal s (G0 s)),AB (G0 s).isSome]) []:=by
 have hix:=Hq s.qu.Af fun p=>decide (p.to=-1)||!Xy s.tb p.to
 refine fb Tryz.func178 (by kernel_rfl) rfl Tryz.ntmps178 Tryz.results178 rfl rfl rfl rfl fun E hS=>?_
 cases hf:G0 s with
 |none=>
  have hf':Fl s.qu.Af (fun p=>decide (p.to=-1)||!Xy s.tb p.to)=none:=hf;rw[hf'] at hix;have hix':FnS Tryz.prog 210 [AD (pks s.qu.Af),.clo (BY fun p=>decide (p.to=-1)||!Xy s.tb p.to)] [] (AI (-1)) []:=hix
  repeat'(first|refine sB ?_|(refine gN ?_;first|refine A6 (gk rfl) rfl rfl ?_)|(show VR _ _ _ (⟨_,.fieldAddr _ _ _,_,_,_,_⟩ :: _) _ _ _;first|refine A0 (gk rfl) rfl rfl rfl rfl rfl ?_)|refine Aj rfl (by exact tt0) ?_|(refine gC ?_;first|refine AJ [1] (hix') (gk rfl) rfl (by(repeat'(first|exact .nil|refine .cons ?_ ?_|exact .of0 (.c .d)|exact(OD (by simp) rfl)))<;>fail) (by rfl) rfl (by rfl) rfl (by rfl) rfl ?_)|(refine gD ?_;first|refine Ah rfl ?_)|fail)
  all_goals exact AL Ab rfl rfl rfl rfl rfl rfl rfl
 |some i=>
  have hf':Fl s.qu.Af (fun p=>decide (p.to=-1)||!Xy s.tb p.to)=some i:=hf;rw[hf'] at hix;have hix':FnS Tryz.prog 210 [AD (pks s.qu.Af),.clo (BY fun p=>decide (p.to=-1)||!Xy s.tb p.to)] [] (AI (i:Nat)) []:=hix;obtain⟨hi,_,_⟩:=BJ hf'
  repeat'(first|refine sB ?_|(refine gN ?_;first|refine A6 (gk rfl) rfl rfl ?_)|(show VR _ _ _ (⟨_,.fieldAddr _ _ _,_,_,_,_⟩ :: _) _ _ _;first|refine A0 (gk rfl) rfl rfl rfl rfl rfl ?_)|refine Aj rfl (by exact tt0) ?_|(refine gC ?_;first|refine AJ [1] (hix') (gk rfl) rfl (by(repeat'(first|exact .nil|refine .cons ?_ ?_|exact .of0 (.c .d)|exact(OD (by simp) rfl)))<;>fail) (by rfl) rfl (by rfl) rfl (by rfl) rfl ?_)|(refine gI ?_;first|refine Aq (gk rfl) rfl rfl rfl rfl rfl (by omega) rfl ?_)|(refine gD ?_;first|refine Ag rfl ?_)|fail)
  all_goals first
   |(exfalso;omega)
   |exact AL Ab rfl rfl rfl rfl rfl rfl rfl
theorem IV (s:Sta) (slot:Int) (c:TC) (p:Pk):FnS Tryz.prog 285 [wP s slot c,pkA p] [] (acA (Abt s p)) []:=by
 refine fb Tryz.func285 (by kernel_rfl) rfl Tryz.ntmps285 Tryz.results285 rfl rfl rfl rfl fun E hS=>?_
 repeat'(first|refine sB ?_|(refine gN ?_;first|refine A6 (gk rfl) rfl rfl ?_)|(show VR _ _ _ (⟨_,.fieldAddr _ _ _,_,_,_,_⟩ :: _) _ _ _;first|refine A0 (gk rfl) rfl rfl rfl rfl rfl ?_)|refine Aj rfl (by exact tt0) ?_|refine Ap (by kernel_rfl) ?_|fail)
 all_goals exact BQ Ab rfl rfl rfl rfl rfl
abbrev FQ:=Int
abbrev FQ.enc (x:Int):List D:=[.int .i64 x]
theorem ZG (l:List Int) (x:Int):FnS Tryz.prog 306 [AD (ints l),AI x] [] (AI (oI (Fl l fun y=>decide (x=y)))) []:=by
 refine fb Tryz.func306 (by kernel_rfl) rfl Tryz.ntmps306 Tryz.results306 rfl rfl rfl rfl fun E hS=>?_
 refine BP (t:=0) rfl fun hb=>?_
 repeat'(first|refine sC ?_|refine Aj rfl (by exact tt0) ?_|fail)
 refine AA (ι:=Nat) (fun k=>AS [(0,AD (ints l)),(1,AI x),(7,AI l.length),(8,AI k)] []) (fun k=>k<=l.length/\∀i,i<k->decide (x=l.getD i default)=false) (fun k=>l.length-k) 0 ⟨AeV _,fun i hi=>absurd hi (AeQ _)⟩ ?_ ?_
 ·refine lg ?_ ?_ rfl (by rfl)
  all_goals repeat'(first|exact tt0|refine⟨⟨_,rfl,?_⟩,?_⟩|exact .c .d|fail)
 ·intro k hk
  repeat'(first|refine sC ?_|refine Aj rfl (by first|exact tt0|omega) ?_|(refine gI ?_;first|refine Aq (gk rfl) rfl rfl rfl rfl rfl (by omega) rfl ?_)|(refine gD ?_;first|(refine Ay rfl ?_ ?_<;>intro h<;>have hq:=h<;>(try simp only[hqs] at hq)))|fail)
  ·refine AG Ab rfl ?_;rw[Er (l:=l) (p:=fun y=>decide (x=y)) hk.2 (by omega) (Aed (hq))];rfl
  ·refine⟨k+1,⟨by omega,fun i hi=>?_⟩,by omega,?_⟩
   ·by_cases hik:i<k
    ·exact hk.2 i hik
    ·have:i=k:=by omega
     subst this;exact Aee fun e=>hq (id e)
   ·refine lg ?_ ?_ rfl (by rfl)
    all_goals repeat'(first|exact tt0|refine⟨⟨_,rfl,?_⟩,?_⟩|exact .c .d|fail)
  ·refine AG Ab rfl ?_;have:k=l.length:=by omega
   subst this;rw[DI (l:=l) (p:=fun y=>decide (x=y)) hk.2];rfl
theorem SU (l:List Int) (x:Int):FnS Tryz.prog 283 [AD (ints l),AI x] [] (AB (l.any fun y=>decide (x=y))) []:=by
 refine fb Tryz.func283 (by kernel_rfl) rfl Tryz.ntmps283 Tryz.results283 rfl rfl rfl rfl fun E hS=>?_
 repeat'(first|refine sB ?_|refine Aj rfl (by exact tt0) ?_|(refine gC ?_;first|refine Aa (ZG l x) (gk rfl) rfl rfl rfl (by rfl) rfl (by rfl) rfl ?_)|fail)
 all_goals exact As Ab rfl (E1 _ _).symm
set_option maxHeartbeats 1000000 in
theorem Ou (s:Sta) (slot:Int) (c:TC) (hck:AT s=0):FnS Tryz.prog 234 [wP s slot c] [] (acA (Vi s slot c)) []:=by
 have hho:=IC s slot c c.Ca;refine fb Tryz.func234 (by kernel_rfl) rfl Tryz.ntmps234 Tryz.results234 rfl rfl rfl rfl fun E hS=>?_
 cases hsd:c.send with
 |false=>
  have hsd':(!c.send)=true:=by rw[hsd];rfl
  have e:Vi s slot c=Abw:=by rw[Vi,AeT hsd]
  rw[e]
  repeat'(first|refine sB ?_|(refine gN ?_;first|refine A6 (gk rfl) rfl rfl ?_)|(show VR _ _ _ (⟨_,.fieldAddr _ _ _,_,_,_,_⟩ :: _) _ _ _;first|refine A0 (gk rfl) rfl rfl rfl rfl rfl ?_)|refine Aj rfl (by exact tt0) ?_|(refine gD ?_;first|refine Ah rfl ?_|refine At rfl (by assumption) ?_)|fail)
  exact BQ Ab rfl rfl rfl rfl rfl
 |true=>
  have hsd':(!c.send)=false:=by rw[hsd];rfl
  cases hf:Oa s.held c.Ca with
  |none=>
   have e:Vi s slot c=zAc:=by rw[Vi,AeS (by rw[hsd];simp),hf]
   rw[hf] at hho;have hho':FnS Tryz.prog 175 [wP s slot c,AI c.Ca] [] (AI (-1)) []:=hho;rw[e]
   repeat'(first|refine sB ?_|(refine gN ?_;first|refine A6 (gk rfl) rfl rfl ?_)|(show VR _ _ _ (⟨_,.fieldAddr _ _ _,_,_,_,_⟩ :: _) _ _ _;first|refine A0 (gk rfl) rfl rfl rfl rfl rfl ?_)|refine Aj rfl (by exact tt0) ?_|(refine gC ?_;first|refine Aa (hho') (gk rfl) rfl rfl rfl (by rfl) rfl (by rfl) rfl ?_)|refine Ap (by kernel_rfl) ?_|(refine gD ?_;first|refine Ah rfl ?_|refine Ag rfl ?_|refine At rfl (by assumption) ?_)|fail)
   exact BQ Ab rfl rfl rfl rfl rfl
  |some i=>
   have e:Vi s slot c=if(s.held.getD i default).til<slot\/((s.held.getD i default).AQ.any fun y=>decide (c.peer=y))=true then zAc else Adn s c (s.held.getD i default):=by rw[Vi,AeS (by rw[hsd];simp),hf]
   rw[hf] at hho;have hho':FnS Tryz.prog 175 [wP s slot c,AI c.Ca] [] (AI (i:Nat)) []:=hho;obtain⟨hi,_,_⟩:=BJ hf;have hfr:=DO ((DZ (Bl hck).2.2.2.1).2 i hi).1;rw[e]
   repeat'(first|refine sB ?_|(refine gN ?_;first|refine A6 (gk rfl) rfl rfl ?_)|(show VR _ _ _ (⟨_,.fieldAddr _ _ _,_,_,_,_⟩ :: _) _ _ _;first|refine A0 (gk rfl) rfl rfl rfl rfl rfl ?_)|refine Aj rfl (by first|exact tt0|omega) ?_|(refine gC ?_;first|refine Aa (hho') (gk rfl) rfl rfl rfl (by rfl) rfl (by rfl) rfl ?_|refine Aa (SU (s.held.getD i default).AQ c.peer) (gk rfl) rfl rfl rfl (by rfl) rfl (by rfl) rfl ?_)|(refine gI ?_;first|refine Aq (gk rfl) rfl rfl rfl rfl rfl (by omega) rfl ?_)|(refine Ax rfl ?_ ?_<;>intro h<;>have hq:=h<;>(try simp only[hqs] at hq))|refine Ap (by kernel_rfl) ?_|(refine gD ?_;first|refine Ah rfl ?_|refine Ag rfl ?_|refine At rfl (by assumption) ?_|(refine Ay rfl ?_ ?_<;>intro h<;>have hq:=h<;>(try simp only[hqs] at hq)))|fail)
   all_goals first
    |(exfalso;omega)
    |skip
   ·rw[AeT (.inl hq)];exact BQ Ab rfl rfl rfl rfl rfl
   ·rw[AeT (.inr h)];exact BQ Ab rfl rfl rfl rfl rfl
   ·rw[AeS (by rintro(h1|h1);omega;rw[h] at h1;cases h1)];exact BQ Ab rfl rfl rfl rfl rfl
set_option maxHeartbeats 1000000 in
theorem Qp (s:Sta) (slot:Int) (c:TC):FnS Tryz.prog 235 [wP s slot c] [] (acA (Xz s c)) []:=by
 refine fb Tryz.func235 (by kernel_rfl) rfl Tryz.ntmps235 Tryz.results235 rfl rfl rfl rfl fun E hS=>?_
 cases hsd:c.send with
 |false=>
  have hsd':(!c.send)=true:=by rw[hsd];rfl
  have e:Xz s c=Abw:=by rw[Xz,AeT hsd]
  rw[e]
  repeat'(first|refine sB ?_|(refine gN ?_;first|refine A6 (gk rfl) rfl rfl ?_)|(show VR _ _ _ (⟨_,.fieldAddr _ _ _,_,_,_,_⟩ :: _) _ _ _;first|refine A0 (gk rfl) rfl rfl rfl rfl rfl ?_)|refine Aj rfl (by exact tt0) ?_|(refine gD ?_;first|refine Ah rfl ?_|refine At rfl (by assumption) ?_)|fail)
  exact BQ Ab rfl rfl rfl rfl rfl
 |true=>
  have hsd':(!c.send)=false:=by rw[hsd];rfl
  have e:Xz s c=if(DJ s.qu c.peer).2=true then Abt s (DJ s.qu c.peer).1 else zAc:=by rw[Xz,AeS (by rw[hsd];simp)]
  rw[e]
  repeat'(first|refine sB ?_|(refine gN ?_;first|refine A6 (gk rfl) rfl rfl ?_)|(show VR _ _ _ (⟨_,.fieldAddr _ _ _,_,_,_,_⟩ :: _) _ _ _;first|refine A0 (gk rfl) rfl rfl rfl rfl rfl ?_)|refine Aj rfl (by exact tt0) ?_|(refine gC ?_;first|refine Aa (LJ s.qu c.peer) (gk rfl) rfl rfl rfl (by rfl) rfl (by rfl) rfl ?_|refine Aa (IV s slot c (DJ s.qu c.peer).1) (gk rfl) rfl rfl rfl (by rfl) rfl (by rfl) rfl ?_)|refine Ap (by kernel_rfl) ?_|(refine gD ?_;first|refine Ag rfl ?_|refine At rfl (by assumption) ?_|(refine Ay rfl ?_ ?_<;>intro h<;>have hq:=h<;>(try simp only[hqs] at hq)))|fail)
  ·rw[AeT h];exact BQ Ab rfl rfl rfl rfl rfl
  ·rw[AeS (by rw[h];simp)];exact BQ Ab rfl rfl rfl rfl rfl
set_option maxHeartbeats 1000000 in
theorem FA (s:Sta) (slot:Int) (c:TC):FnS Tryz.prog 236 [wP s slot c] [] (acA (XQ s)) []:=by
 refine fb Tryz.func236 (by kernel_rfl) rfl Tryz.ntmps236 Tryz.results236 rfl rfl rfl rfl fun E hS=>?_
 repeat'(first|refine sB ?_|(refine gN ?_;first|refine A6 (gk rfl) rfl rfl ?_)|(show VR _ _ _ (⟨_,.fieldAddr _ _ _,_,_,_,_⟩ :: _) _ _ _;first|refine A0 (gk rfl) rfl rfl rfl rfl rfl ?_)|refine Aj rfl (by exact tt0) ?_|(refine gC ?_;first|refine Aa (Cb s slot c) (gk rfl) rfl rfl rfl (by rfl) rfl (by rfl) rfl ?_|refine Aa (IV s slot c (Aal s (G0 s))) (gk rfl) rfl rfl rfl (by rfl) rfl (by rfl) rfl ?_)|(refine Ax rfl ?_ ?_<;>intro h<;>have hq:=h<;>(try simp only[hqs] at hq))|(refine gD ?_;first|refine Ag rfl ?_|(refine Ay rfl ?_ ?_<;>intro h<;>have hq:=h<;>(try simp only[hqs] at hq)))|fail)
 all_goals first
  |(rw[XQ,AeT ⟨by assumption,by omega⟩]
    exact BQ Ab rfl rfl rfl rfl rfl)
  |(rw[XQ,AeS (by rintro⟨h1,h2⟩;simp_all)]
    exact BQ Ab rfl rfl rfl rfl rfl)
set_option maxHeartbeats 1000000 in
theorem TG (s:Sta) (slot:Int) (c:TC):FnS Tryz.prog 240 [wP s slot c] [] (pkA (BG s c)) []:=by
 refine fb Tryz.func240 (by kernel_rfl) rfl Tryz.ntmps240 Tryz.results240 rfl rfl rfl rfl fun E hS=>?_
 repeat'(first|refine sB ?_|(refine gN ?_;first|refine A6 (gk rfl) rfl rfl ?_)|(show VR _ _ _ (⟨_,.fieldAddr _ _ _,_,_,_,_⟩ :: _) _ _ _;first|refine A0 (gk rfl) rfl rfl rfl rfl rfl ?_)|refine Aj rfl (by exact tt0) ?_|(refine gC ?_;first|refine Aa (Cb s slot c) (gk rfl) rfl rfl rfl (by rfl) rfl (by rfl) rfl ?_|refine Aa (LJ s.qu c.peer) (gk rfl) rfl rfl rfl (by rfl) rfl (by rfl) rfl ?_)|refine Ap (by kernel_rfl) ?_|(refine gD ?_;first|(refine Ay rfl ?_ ?_<;>intro h<;>have hq:=h<;>(try simp only[hqs] at hq)))|fail)
 ·rw[BG,AeT hq];exact BQ Ab rfl rfl rfl rfl rfl
 ·rw[BG,AeS hq];exact BQ Ab rfl rfl rfl rfl rfl
theorem Ac5 {f1 f2 f3 z:C} {kd:Int} (h1:¬kd=1) (h2:¬kd=2) (h3:¬kd=3):(ER (Jk (Jk (Jk [] [1] f1) [2] f2) [3] f3) [kd]).getD z=z:=by
 simp[ER,Jk];rw[AeS (fun e=>h1 e.symm),AeS (fun e=>h2 e.symm),AeS (fun e=>h3 e.symm)]
 rfl
theorem Aaa {σ:St} {f:Nat->Nat} {L:List Nat} {x:C} {y:D} (h:x=.d y):AW σ f L (.c x) (AD y):=by subst h;exact .c .d
theorem Jq {a:Ac} {o:Int} (h:a.kind=0):QU a o=a:=AeT h
theorem Jr {a:Ac} {o:Int} (h:¬a.kind=0):QU a o={a with offset:=o}:=AeS h
set_option maxHeartbeats 1000000 in
theorem Cg (s:Sta) (slot:Int) (c:TC) (hck:AT s=0):FnS Tryz.prog 172 [wP s slot c] [] (acA (CV s slot c)) []:=by
 obtain⟨sl,of,kd,snd,pe,fl⟩:=c;refine fb Tryz.func172 (by kernel_rfl) rfl Tryz.ntmps172 Tryz.results172 rfl rfl rfl rfl fun E hS=>?_
 by_cases h1:kd=1
 ·subst h1;have e:CV s slot ⟨sl,of,1,snd,pe,fl⟩=QU (Vi s slot ⟨sl,of,1,snd,pe,fl⟩) of:=by rw[CV,GZ,AeT rfl]
  rw[e]
  repeat'(first|refine sB ?_|(show VR _ _ _ (⟨_,.makeFunc _ #[_] #[],_,_,_,_⟩ :: _) _ _ _;first|refine HE (gk rfl) rfl rfl ?_)|(show VR _ _ _ (⟨_,.makeMap _ none,_,_,_,_⟩ :: _) _ _ _;first|refine Fc (gk rfl) rfl rfl ?_)|(show VR _ _ _ (⟨_,.insert _ _ _ _,_,_,_,_⟩ :: _) _ _ _;first|refine Gw (gk rfl) rfl rfl rfl rfl rfl rfl rfl ?_)|(show VR _ _ _ (⟨_,.lookup _ _ _ false,_,_,_,_⟩ :: _) _ _ _;first|refine Gv (gk rfl) rfl rfl rfl rfl rfl rfl rfl rfl ?_)|(show VR _ _ _ (⟨_,.binOp .eql _ _ (.const .nilFunc) _,_,_,_,_⟩ :: _) _ _ _;first|refine LQ (by kernel_rfl) (gk rfl) rfl rfl ?_)|(refine gN ?_;first|refine A6 (gk rfl) rfl rfl ?_)|(show VR _ _ _ (⟨_,.fieldAddr _ _ _,_,_,_,_⟩ :: _) _ _ _;first|refine A0 (gk rfl) rfl rfl rfl rfl rfl ?_)|refine Aj rfl (by exact tt0) ?_|(refine gC ?_;first|refine JF [] (Ou s slot ⟨sl,of,1,snd,pe,fl⟩ hck) (gk rfl) rfl rfl (by(repeat'(exact .nil))<;>fail) (by rfl) rfl (by rfl) rfl (by rfl) rfl ?_)|(refine gD ?_;first|refine Ag rfl ?_|(refine Ay rfl ?_ ?_<;>intro h<;>have hq:=h<;>(try simp only[hqs] at hq)))|fail)
  ·rw[Jr hq];exact BQ Ab rfl rfl rfl rfl rfl
  ·rw[Jq hq];exact BQ Ab rfl rfl rfl rfl rfl
 by_cases h2:kd=2
 ·subst h2;have e:CV s slot ⟨sl,of,2,snd,pe,fl⟩=QU (Xz s ⟨sl,of,2,snd,pe,fl⟩) of:=by rw[CV,GZ,AeS (by intro h;cases h),AeT rfl]
  rw[e]
  repeat'(first|refine sB ?_|(show VR _ _ _ (⟨_,.makeFunc _ #[_] #[],_,_,_,_⟩ :: _) _ _ _;first|refine HE (gk rfl) rfl rfl ?_)|(show VR _ _ _ (⟨_,.makeMap _ none,_,_,_,_⟩ :: _) _ _ _;first|refine Fc (gk rfl) rfl rfl ?_)|(show VR _ _ _ (⟨_,.insert _ _ _ _,_,_,_,_⟩ :: _) _ _ _;first|refine Gw (gk rfl) rfl rfl rfl rfl rfl rfl rfl ?_)|(show VR _ _ _ (⟨_,.lookup _ _ _ false,_,_,_,_⟩ :: _) _ _ _;first|refine Gv (gk rfl) rfl rfl rfl rfl rfl rfl rfl rfl ?_)|(show VR _ _ _ (⟨_,.binOp .eql _ _ (.const .nilFunc) _,_,_,_,_⟩ :: _) _ _ _;first|refine LQ (by kernel_rfl) (gk rfl) rfl rfl ?_)|(refine gN ?_;first|refine A6 (gk rfl) rfl rfl ?_)|(show VR _ _ _ (⟨_,.fieldAddr _ _ _,_,_,_,_⟩ :: _) _ _ _;first|refine A0 (gk rfl) rfl rfl rfl rfl rfl ?_)|refine Aj rfl (by exact tt0) ?_|(refine gC ?_;first|refine JF [] (Qp s slot ⟨sl,of,2,snd,pe,fl⟩) (gk rfl) rfl rfl (by(repeat'(exact .nil))<;>fail) (by rfl) rfl (by rfl) rfl (by rfl) rfl ?_)|(refine gD ?_;first|refine Ag rfl ?_|(refine Ay rfl ?_ ?_<;>intro h<;>have hq:=h<;>(try simp only[hqs] at hq)))|fail)
  ·rw[Jr hq];exact BQ Ab rfl rfl rfl rfl rfl
  ·rw[Jq hq];exact BQ Ab rfl rfl rfl rfl rfl
 by_cases h3:kd=3
 ·subst h3;have e:CV s slot ⟨sl,of,3,snd,pe,fl⟩=QU (XQ s) of:=by rw[CV,GZ,AeS (by intro h;cases h),AeS (by intro h;cases h),AeT rfl]
  rw[e]
  repeat'(first|refine sB ?_|(show VR _ _ _ (⟨_,.makeFunc _ #[_] #[],_,_,_,_⟩ :: _) _ _ _;first|refine HE (gk rfl) rfl rfl ?_)|(show VR _ _ _ (⟨_,.makeMap _ none,_,_,_,_⟩ :: _) _ _ _;first|refine Fc (gk rfl) rfl rfl ?_)|(show VR _ _ _ (⟨_,.insert _ _ _ _,_,_,_,_⟩ :: _) _ _ _;first|refine Gw (gk rfl) rfl rfl rfl rfl rfl rfl rfl ?_)|(show VR _ _ _ (⟨_,.lookup _ _ _ false,_,_,_,_⟩ :: _) _ _ _;first|refine Gv (gk rfl) rfl rfl rfl rfl rfl rfl rfl rfl ?_)|(show VR _ _ _ (⟨_,.binOp .eql _ _ (.const .nilFunc) _,_,_,_,_⟩ :: _) _ _ _;first|refine LQ (by kernel_rfl) (gk rfl) rfl rfl ?_)|(refine gN ?_;first|refine A6 (gk rfl) rfl rfl ?_)|(show VR _ _ _ (⟨_,.fieldAddr _ _ _,_,_,_,_⟩ :: _) _ _ _;first|refine A0 (gk rfl) rfl rfl rfl rfl rfl ?_)|refine Aj rfl (by exact tt0) ?_|(refine gC ?_;first|refine JF [] (FA s slot ⟨sl,of,3,snd,pe,fl⟩) (gk rfl) rfl rfl (by(repeat'(exact .nil))<;>fail) (by rfl) rfl (by rfl) rfl (by rfl) rfl ?_)|(refine gD ?_;first|refine Ag rfl ?_|(refine Ay rfl ?_ ?_<;>intro h<;>have hq:=h<;>(try simp only[hqs] at hq)))|fail)
  ·rw[Jr hq];exact BQ Ab rfl rfl rfl rfl rfl
  ·rw[Jq hq];exact BQ Ab rfl rfl rfl rfl rfl
 have e:CV s slot ⟨sl,of,kd,snd,pe,fl⟩=zAc:=by
  rw[CV,GZ,AeS h1,AeS h2,AeS h3];exact Jq rfl
 rw[e]
 repeat'(first|refine sR ?_|(show VR _ _ _ (⟨_,.makeFunc _ #[_] #[],_,_,_,_⟩ :: _) _ _ _;first|refine HE (gk rfl) rfl rfl ?_)|(show VR _ _ _ (⟨_,.makeMap _ none,_,_,_,_⟩ :: _) _ _ _;first|refine Fc (gk rfl) rfl rfl ?_)|(show VR _ _ _ (⟨_,.insert _ _ _ _,_,_,_,_⟩ :: _) _ _ _;first|refine Gw (gk rfl) rfl rfl rfl rfl rfl rfl rfl ?_)|(show VR _ _ _ (⟨_,.lookup _ _ _ false,_,_,_,_⟩ :: _) _ _ _;first|refine Gv (gk rfl) rfl rfl rfl rfl rfl rfl rfl rfl ?_)|(refine gN ?_;first|refine A6 (gk rfl) rfl rfl ?_)|(show VR _ _ _ (⟨_,.fieldAddr _ _ _,_,_,_,_⟩ :: _) _ _ _;first|refine A0 (gk rfl) rfl rfl rfl rfl rfl ?_)|refine Aj rfl (by exact tt0) ?_|refine sq 2 rfl ?_|fail)
 refine VC.le (σ':=AS [(2,.c (.ptr 2 0)),(3,AD (.raw .nilFunc))] [(2,.box zAc.cs)]) ?_ ?_
 ·refine lg ?_ ?_ rfl (by rfl)
  all_goals repeat'(first|exact tt0|refine⟨⟨_,rfl,?_⟩,?_⟩|exact .c (.ptr rfl)|exact .Bh rfl rfl|fail)
  exact Aaa (Ac5 h1 h2 h3)
 repeat'(first|refine sB ?_|(show VR _ _ _ (⟨_,.binOp .eql _ _ (.const .nilFunc) _,_,_,_,_⟩ :: _) _ _ _;first|refine Tl (by kernel_rfl) (gk rfl) rfl rfl ?_)|refine Aj rfl (by exact tt0) ?_|(refine gD ?_;first|refine Ah rfl ?_)|fail)
 exact BQ Ab rfl rfl rfl rfl rfl
end Go.Proofs
end
