/-
  What functions of the program hand back, and plain laws on that. No condition.
-/
import Derived.Test.YtdlcbilgemnomaaGreatSxMak
import Derived.Test.YtdlcbilgemnomaaGreatSxMal
import Derived.Test.YtdlcbilgemnomaaGreatSxMab
import Derived.Test.YtdlcbilgemnomaaGreatSxMac
import Derived.Test.YtdlcbilgemnomaaGreatSxMae
import Derived.Test.YtdlcbilgemnomaaGreatSxMah
import Derived.Test.YtdlcbilgemnomaaGreatSxMad
set_option linter.unusedSimpArgs false
set_option linter.unusedVariables false
section
namespace Go.Proofs.M
open Go Go.Sx Go.RowKit Go.Proofs Go.Proofs.T Go.Proofs.Q
set_option maxRecDepth 4000
attribute [local irreducible] VR VC thenQ blockQ retL VX
theorem Acu {m:Me} {l:List (Nat×AV)} (h:∀p∈l,p.2.shallow=true/\∀n∈p.2.names,n=100\/n=3\/n=6):O2 l [(3,.box m.cs),(6,.box (Me.cs ⟨[],0,0,[]⟩))]:=by
 refine⟨fun p hp=>?_,fun p hp=>?_,fun p hp=>⟨(h p hp).1,fun n hn=>?_⟩⟩
 ·simp only[Aex,Aek,or_false] at hp;rcases hp with rfl|rfl<;>simp
 ·simp only[Aex,Aek,or_false] at hp;rcases hp with rfl|rfl<;>simp[Blk.names,Me.cs,C.names]
 ·have:=(h p hp).2 n hn;simpa using this
theorem Ac8 {E:Env Tryz.prog 116} {σ:St} {m:Me} {loads:List Ld} {sil:List Si} {R:Nat->RI} {r0:RI} (hS:∀b,¬E.S0 b) (hn:m.nodes.length<=32)
  (s3:σ (.s 3)=some (.v (.c (.ptr 3 0)))) (s6:σ (.s 6)=some (.v (.c (.ptr 6 0)))) (s7:σ (.s 7)=some (.v (.c (.ptr 100 0))))
  (h100:σ (.b 100)=some (.k (.box [.d (.int .i64 m.slot),.d (.int .i64 m.turns),.row 103 (FE R m.nodes.length).length,.d (lds loads),.d (sis sil),.row 102 m.arr.length]))) (h102:σ (.b 102)=some (.k (.row 62 3 (rowOf Ar.enc m.arr))))
  (h103:σ (.b 103)=some (.k (.row 136 1 (rowOf LB (FE R m.nodes.length))))) (h3:σ (.b 3)=some (.k (.box m.cs))) (h6:σ (.b 6)=some (.k (.box (Me.cs ⟨[],0,0,[]⟩)))) (hpn:σ (.b 9100)=some (.k (.pin 100 r0)))
  (hfam:∀j,j<m.nodes.length->σ (.b (8000+j))=some (.k (.box ((O0 m m.nodes.length).getD j default).cs))) (hpin:∀j,j<m.nodes.length->σ (.b (20000+j))=some (.k (.pin (8000+j) (R j)))):
  Le E σ (lsS [(3,.c (.ptr 3 0)),(6,.c (.ptr 6 0)),(7,.c (.ptr 100 0))] (fxS m.slot m.turns R m.nodes.length loads sil m.arr r0++[(3,.box m.cs),(6,.box (Me.cs ⟨[],0,0,[]⟩))]) R (C6 m)):=by
 have hO:O2 [(3,.c (.ptr 3 0)),(6,.c (.ptr 6 0)),(7,.c (.ptr 100 0))] [(3,.box m.cs),(6,.box (Me.cs ⟨[],0,0,[]⟩))]:=Acu (m:=m) (by
  intro p hp;simp only[Aex,Aek,or_false] at hp;rcases hp with rfl|rfl|rfl<;>refine⟨rfl,fun n hn=>?_⟩<;>simp only[AV.names,AV.Ce,C.names,Aex,Aek,or_false] at hn<;>omega)
 have hlen:(C6 m).length=m.nodes.length:=by simp[C6]
 rw[show(FE R m.nodes.length).length=m.nodes.length by simp[FE]] at h100;have key:∀n,(Av (Dz (fxS m.slot m.turns R m.nodes.length loads sil m.arr r0++[(3,.box m.cs),(6,.box (Me.cs ⟨[],0,0,[]⟩))]) R ((C6 m).map Wk.cs)) n).isSome=true->n≠103:=fun n h=>by
  obtain⟨b,hb⟩:=Ae1.1 h;rcases BD hb with h|⟨j,hj,rfl,_⟩|⟨j,hj,rfl,_⟩
  ·rcases E0 hO h with⟨rfl,_⟩|⟨rfl,_⟩|⟨rfl,_⟩|⟨_,h⟩<;>omega
  ·omega
  ·omega
 refine Ur (fun n=>n) [103] hS ⟨⟨_,s3,.c (.ptr rfl)⟩,⟨_,s6,.c (.ptr rfl)⟩,⟨_,s7,.c (.ptr rfl)⟩,trivial⟩ (fun n x hx=>?_) (fun n1 n2 _ _ h=>h) (fun n h q hq=>by rw[Aer] at hq;rw[hq];exact key n h) ?_
 ·rcases BD hx with h|⟨j,hj,rfl,rfl⟩|⟨j,hj,rfl,rfl⟩
  ·rcases E0 hO h with⟨rfl,rfl⟩|⟨rfl,rfl⟩|⟨rfl,rfl⟩|⟨h,_⟩
   ·refine⟨_,h100,.box (.cons .d (.cons .d (.cons (.frz (n:=m.nodes.length) (Aer.2 rfl) h103 (by simp[FE,rowOf]) (fun i x hi hx j hj=>?_)) (.cons .d (.cons .d (.cons (.row rfl rfl) .nil))))))⟩;have hj:j=0:=by omega
    subst hj;have e:x=[.d (.raw (pvo (R i).blk 0))]:=by
     simp[rowOf,FE,LB,hi] at hx;exact hx.symm
    rw[e];rfl
   ·exact⟨_,h102,.Bc rfl Ai⟩
   ·exact⟨_,hpn,.pin rfl⟩
   ·have hm:=AF h;simp only[Aex,Aek,or_false,Prod.mk.injEq] at hm;rcases hm with⟨rfl,rfl⟩|⟨rfl,rfl⟩
    ·exact⟨_,h3,.Bh rfl rfl⟩
    ·exact⟨_,h6,.Bh rfl rfl⟩
  ·rw[Aet,hlen] at hj;rw[HC (by rw[hlen];exact hj)];exact⟨_,hfam j hj,.Bh rfl rfl⟩
  ·rw[Aet,hlen] at hj;exact⟨_,hpin j hj,.pin rfl⟩
 ·exact PZ hO (by omega)
def fnD (r0:RI):D:=.rd 8 1 fun k _=>.raw (fnV (gsF k) r0)
theorem Jt {E:Env Tryz.prog 116} {σ:St} {slot turns:Int} {R:Nat->RI} {nn:Nat} {loads:List Ld} {sil:List Si} {arr:List Ar} {r0:RI} {l l':List (Nat×AV)} {FY:List (Nat×Blk)} {X:List Wk} (hO:O2 l' FY) (hX:X.length<=64)
  (hb:∀n,σ (.b n)=lsS l (fxS slot turns R nn loads sil arr r0++FY) R X (.b n)) (hs:∀p∈l',σ (.s p.1)=some (.v p.2)):Le E σ (lsS l' (fxS slot turns R nn loads sil arr r0++FY) R X):=by
 rintro a w ⟨ρ,Im,h⟩;refine⟨ρ,Im,h.sub (fun k it hk=>?_) (Og hO hX)⟩;cases k with
 |s t=>
  have hk:(Av l' t).map Sx.Item.v=some it:=hk;rw[AeY] at hk;obtain⟨y,hy,rfl⟩:=hk;exact hs _ (AF hy)
 |b n=>rw[hb];exact hk
theorem Ac7 {E:Env Tryz.prog 116} {σ:St} {m:Me} {loads:List Ld} {sil:List Si} {R:Nat->RI} {r0:RI} {k:Nat} {A:List Ar×List Wk} (hS:∀b,¬E.S0 b) (hn:m.nodes.length<=32) (hO:O2 [(3,.c (.ptr 3 0)),(6,.c (.ptr 6 0)),(7,.c (.ptr 100 0)),(66,AD (fnD r0)),(67,AI 8),(68,AI (k:Int))] [(3,.box m.cs),(6,.box (Me.cs ⟨[],0,0,[]⟩))]) (hlen:A.2.length=m.nodes.length)
  (s3:σ (.s 3)=some (.v (.c (.ptr 3 0)))) (s6:σ (.s 6)=some (.v (.c (.ptr 6 0)))) (s7:σ (.s 7)=some (.v (.c (.ptr 100 0)))) (s66:σ (.s 66)=some (.v (.c (.row 66 8)))) (s67:σ (.s 67)=some (.v (AI 8))) (s68:σ (.s 68)=some (.v (AI (k:Int))))
  (h66:σ (.b 66)=some (.k (.row 147 1 [[MD (gsF 0) r0 0],[MD (gsF 1) r0 0],[MD (gsF 2) r0 0],[MD (gsF 3) r0 0],[MD (gsF 4) r0 0],[MD (gsF 5) r0 0],[MD (gsF 6) r0 0],[MD (gsF 7) r0 0]])))
  (hblk:∀n b,n≠66->Av (Dz (fxS m.slot m.turns R m.nodes.length loads sil A.1 r0++[(3,.box m.cs),(6,.box (Me.cs ⟨[],0,0,[]⟩))]) R (A.2.map Wk.cs)) n=some b->σ (.b n)=some (.k b)):
  Le E σ (lsS [(3,.c (.ptr 3 0)),(6,.c (.ptr 6 0)),(7,.c (.ptr 100 0)),(66,AD (fnD r0)),(67,AI 8),(68,AI (k:Int))] (fxS m.slot m.turns R m.nodes.length loads sil A.1 r0++[(3,.box m.cs),(6,.box (Me.cs ⟨[],0,0,[]⟩))]) R A.2):=by
 have key:∀n,(Av (Dz (fxS m.slot m.turns R m.nodes.length loads sil A.1 r0++[(3,.box m.cs),(6,.box (Me.cs ⟨[],0,0,[]⟩))]) R (A.2.map Wk.cs)) n).isSome=true->n≠66:=fun n h=>by
  obtain⟨b,hb⟩:=Ae1.1 h;rcases BD hb with h|⟨j,hj,rfl,_⟩|⟨j,hj,rfl,_⟩
  ·rcases E0 hO h with⟨rfl,_⟩|⟨rfl,_⟩|⟨rfl,_⟩|⟨h,_⟩
   ·omega
   ·omega
   ·omega
   ·have hm:=AF h;simp only[Aex,Aek,or_false,Prod.mk.injEq] at hm;rcases hm with⟨rfl,rfl⟩|⟨rfl,rfl⟩<;>omega
  ·omega
  ·omega
 refine Ur (fun n=>n) [66] hS ⟨⟨_,s3,.c (.ptr rfl)⟩,⟨_,s6,.c (.ptr rfl)⟩,⟨_,s7,.c (.ptr rfl)⟩,⟨_,s66,.c (.frz (n:=8) (Aer.2 rfl) h66 (AeU _) (fun i x hi hx j hj=>?_))⟩,⟨_,s67,.c .d⟩,⟨_,s68,.c .d⟩,trivial⟩ (fun n x hx=>?_) (fun n1 n2 _ _ h=>h) (fun n h q hq=>by rw[Aer] at hq;rw[hq];exact key n h) (PZ hO (by omega))
 ·have hj:j=0:=by omega
  subst hj;have hc:i=0\/i=1\/i=2\/i=3\/i=4\/i=5\/i=6\/i=7:=by omega
  rcases hc with rfl|rfl|rfl|rfl|rfl|rfl|rfl|rfl<;>(injection hx with hx;subst hx;rfl)
 ·refine⟨_,hblk n x (key n (by rw[hx];rfl)) hx,?_⟩;rcases BD hx with h|⟨j,hj,rfl,rfl⟩|⟨j,hj,rfl,rfl⟩
  ·rcases E0 hO h with⟨rfl,rfl⟩|⟨rfl,rfl⟩|⟨rfl,rfl⟩|⟨h,_⟩
   ·exact .box (CWs.Ef _)
   ·exact .Bc rfl Ai
   ·exact .pin rfl
   ·have hm:=AF h;simp only[Aex,Aek,or_false,Prod.mk.injEq] at hm;rcases hm with⟨rfl,rfl⟩|⟨rfl,rfl⟩
    ·exact .Bh rfl rfl
    ·exact .Bh rfl rfl
  ·exact .box (CWs.Ef _)
  ·exact .pin rfl
set_option maxHeartbeats 4000000 in
theorem Ty (m:Me) (loads:List Ld) (sil:List Si) (hal:m.arr.length<=100000) (hn32:m.nodes.length<=32) (hsl:0<=m.slot/\m.slot<=109951162) (hll:loads.length<=100000) (hik:IK m.nodes.length 0 (m.arr,C6 m)):FnS Tryz.prog 55 [meA m,AD (lds loads),AD (sis sil)] [] (meA (GX m loads sil)) []:=by
 refine fb Tryz.func55 (by kernel_rfl) rfl Tryz.ntmps55 Tryz.results55 rfl rfl rfl rfl fun E hS=>?_
 repeat'(first|refine sR ?_|refine Aj rfl (by exact tt0) ?_|(refine gC ?_;first|refine Aa (Xn m.arr hal) (gk rfl) rfl rfl rfl (by(simp only[AZ,wfL,AH,wfs,Ae,Ad];rfl)) rfl (by exact B2) rfl ?_)|refine Ap (by kernel_rfl) ?_|(show VC _ (.seq (.region _ _ _) _) _ _;refine BB ?_)|fail)
 refine VC.le (Mm (bx:=27) (nm:=103) (T:=136) (sz:=1) (j:=2) rfl rfl rfl) ?_;refine VC.le (σ':=AS [(3,.c (.ptr 3 0)),(6,.c (.ptr 6 0)),(7,.c (.ptr 100 0))] [(100,.box [.d (.int .i64 m.slot),.d (.int .i64 m.turns),.row 103 0,.d (lds loads),.d (sis sil),.row 102 m.arr.length]),(102,.row 62 3 (rowOf Ar.enc m.arr)),(103,.row 136 1 (rowOf LB [])),(3,.box m.cs),(6,.box (Me.cs ⟨[],0,0,[]⟩))]) ?_ ?_
 ·refine Am (fun n=>if n=100 then 27 else if n=102 then 25007 else n) ?_ ?_ rfl (by(simp only[wfL,wfs,Ae,Ad];rfl))
  all_goals repeat'(first|exact tt0|refine⟨⟨_,rfl,?_⟩,?_⟩|exact .c (.ptr rfl)|exact .Bh rfl rfl|exact .Bc rfl Ai|refine .box ?_|exact .nil|refine .cons ?_ ?_|exact .d|exact .row rfl rfl|fail)
 repeat'(first|refine sC ?_|refine Aj rfl (by exact tt0) ?_|fail)
 refine AA (ι:=Nat×(Nat->RI)) (fun p=>lsS [(3,.c (.ptr 3 0)),(6,.c (.ptr 6 0)),(7,.c (.ptr 100 0)),(29,AD (mns m.nodes)),(30,AI m.nodes.length),(31,AI (p.1:Int))] (fx0 m loads sil p.2 p.1) p.2 (O0 m p.1)) (fun p=>p.1<=m.nodes.length) (fun p=>m.nodes.length-p.1) (0,fun _=>⟨0,0,false⟩) (AeV _) ?_ ?_
 ·refine FV GN (AeV _) ⟨⟨_,rfl,.c (.ptr rfl)⟩,⟨_,rfl,.c (.ptr rfl)⟩,⟨_,rfl,.c (.ptr rfl)⟩,⟨_,rfl,.c .d⟩,⟨_,rfl,.c .d⟩,⟨_,rfl,.c .d⟩,trivial⟩ ⟨⟨_,rfl,.box (CWs.Ef _)⟩,⟨_,rfl,.row (VZ.Ef _)⟩,⟨_,rfl,.row (VZ.Ef _)⟩,⟨_,rfl,.box (CWs.Ef _)⟩,⟨_,rfl,.box (CWs.Ef _)⟩,trivial⟩ (fun j hj=>absurd hj (AeQ _)) (fun j hj=>absurd hj (AeQ _)) ?_ Oh;intro p hp;simp only[Aex,Aek,or_false] at hp;rcases hp with rfl|rfl|rfl|rfl|rfl|rfl<;>refine⟨rfl,fun n hn=>?_⟩<;>simp only[AV.names,AV.Ce,C.names,Aex,Aek,or_false] at hn<;>subst hn<;>rfl
 ·rintro⟨k,R⟩ hk;have hk:k<=m.nodes.length:=hk;dsimp only;have hpl:(FE R k).length=k:=by simp[FE]
  have hgk:(O0 m k).length=k:=Kg;have hgl:(O0 m k).length<=100:=by omega
  by_cases hc:k<m.nodes.length
  ·have hd:decide ((k:Int)<(m.nodes.length:Int))=true:=Aed (by omega);rw[Dj hgl]
   repeat'(first|refine sA ?_|refine Aj rfl (by exact tt0) ?_|(refine gI ?_;first|refine Aq (gk rfl) rfl rfl rfl rfl rfl (by omega) rfl ?_)|(refine gA ?_;first|refine Bf (gk rfl) rfl rfl rfl (by exact Al.symm) (by exact .row rfl (by rfl)) rfl rfl rfl (by(try dsimp only);omega) rfl rfl ?_)|(refine gN ?_;first|refine Ak (gk rfl) rfl rfl ?_)|refine Ap (by kernel_rfl) ?_|refine sq 6 rfl ?_|((fail_if_success (show VC _ (.region 6 _ _) _ _));first|refine Be ?_|refine Cp ?_)|(refine gD ?_;first|refine Ah rfl ?_|refine At rfl (by assumption) ?_)|refine BV ?_|fail)
   refine XK (nm:=44) (pn:=9044) ?_ ?_ fun r=>?_
   ·intro h;have h:(some _:Option Sx.Item)=none:=h;cases h
   ·rfl
   repeat'(first|refine sR ?_|refine Aj rfl (by first|exact tt0|omega) ?_|fail)
   refine⟨(k+1,KS R k r),?_,?_,?_⟩
   ·show k+1<=_;omega
   ·show m.nodes.length-(k+1)<m.nodes.length-k;omega
   refine Le.tr (WQ (q:=46) (T:=136) (xs:=rowOf LB (FE R k)) (nm:=44) (off:=0) (pn:=9044) (r:=r) ?_ ?_) (Abz (by omega) ?_ ?_ ?_ ?_ ?_ ?_ ?_ ?_ ?_ ?_ ?_ ?_ ?_ ?_ ?_)
   all_goals first|rfl|skip
   ·intro j hj;simp(disch:=omega) only [St.B9,LY,F9,Ee];rw[<-Dj hgl];exact J7 GN (X:=O0 m k) (j:=j) (by omega) (by omega)
   ·intro j hj;simp(disch:=omega) only [St.B9,LY,F9,Ee];rw[<-Dj hgl];exact Lo GN (X:=O0 m k) (j:=j) (by omega) (by omega)
  ·have hd:decide ((k:Int)<(m.nodes.length:Int))=false:=Aee (by omega);rw[Dj hgl]
   repeat'(first|refine sA ?_|refine Aj rfl (by exact tt0) ?_|refine sq 7 rfl ?_|((fail_if_success (show VC _ (.region 7 _ _) _ _));refine Be ?_)|(refine gD ?_;first|refine Ag rfl ?_|refine At rfl (by assumption) ?_)|fail)
   have hkn:k=m.nodes.length:=by omega
   subst hkn;refine XK (nm:=100) (pn:=9100) ?_ ?_ fun r0=>?_
   ·intro h;have h:(some _:Option Sx.Item)=none:=h;cases h
   ·rfl
   refine VC.le (σ':=lsS [(3,.c (.ptr 3 0)),(6,.c (.ptr 6 0)),(7,.c (.ptr 100 0))] (fxS m.slot m.turns R m.nodes.length loads sil m.arr r0++[(3,.box m.cs),(6,.box (Me.cs ⟨[],0,0,[]⟩))]) R (C6 m)) ?_ ?_
   ·refine Ac8 hS hn32 ?_ ?_ ?_ ?_ ?_ ?_ ?_ ?_ ?_ ?_ ?_
    all_goals first|rfl|skip
    ·intro j hj;simp(disch:=omega) only [St.B9,LY,F9,Ee];rw[<-Dj hgl];exact J7 GN (X:=O0 m m.nodes.length) (by omega) (by omega)
    ·intro j hj;simp(disch:=omega) only [St.B9,LY,F9,Ee];rw[<-Dj hgl];exact Lo GN (X:=O0 m m.nodes.length) (by omega) (by omega)
   have hw100:(C6 m).length<=100:=by simp[C6];omega
   rw[Dj hw100]
   repeat'(first|refine sC ?_|(show VR _ _ _ (⟨_,.makeFunc _ #[_] #[],_,_,_,_⟩ :: _) _ _ _;first|refine M3 (pn:=9100) (gk rfl) rfl rfl rfl ?_)|refine Aj rfl (by exact tt0) ?_|(refine gE ?_;first|refine BA (gk rfl) rfl rfl (by rfl) rfl rfl ?_)|fail)
   have hO2:∀k:Nat,O2 [(3,.c (.ptr 3 0)),(6,.c (.ptr 6 0)),(7,.c (.ptr 100 0)),(66,AD (fnD r0)),(67,AI 8),(68,AI (k:Int))] [(3,.box m.cs),(6,.box (Me.cs ⟨[],0,0,[]⟩))]:=fun k=>Acu (m:=m) (by intro p hp;simp only[Aex,Aek,or_false] at hp;rcases hp with rfl|rfl|rfl|rfl|rfl|rfl|rfl|rfl|rfl|rfl|rfl<;>refine⟨rfl,fun n hn=>?_⟩<;>simp only[AV.names,AV.Ce,C.names,Aex,Aek,or_false] at hn<;>omega)
   refine AA (ι:=Nat) (fun k=>lsS [(3,.c (.ptr 3 0)),(6,.c (.ptr 6 0)),(7,.c (.ptr 100 0)),(66,AD (fnD r0)),(67,AI 8),(68,AI (k:Int))] (fxS m.slot m.turns R m.nodes.length loads sil (phK m loads sil k).1 r0++[(3,.box m.cs),(6,.box (Me.cs ⟨[],0,0,[]⟩))]) R (phK m loads sil k).2) (fun k=>k<=8) (fun k=>8-k) 0 (AeV _) ?_ ?_
   ·refine Ac7 (k:=0) (A:=phK m loads sil 0) hS hn32 (hO2 0) (Iy 0) ?_ ?_ ?_ ?_ ?_ ?_ ?_ ?_
    all_goals first|rfl|skip
    intro n b hn66 hb;simp(disch:=omega) only [St.B9,LY,F9,Ee];rw[<-Dj hw100];exact HR hb
   ·intro k hk;have hO3:∀i:Nat,O2 [(3,.c (.ptr 3 0)),(6,.c (.ptr 6 0)),(7,.c (.ptr 100 0)),(66,AD (fnD r0)),(67,AI 8),(68,AI (k:Int)),(11,AD (.raw (fnV (gsF k) r0))),(75,AD (Dy R m.nodes.length)),(76,AI m.nodes.length),(77,AI (i:Int))] [(3,.box m.cs),(6,.box (Me.cs ⟨[],0,0,[]⟩))]:=fun i=>Acu (m:=m) (by intro p hp;simp only[Aex,Aek,or_false] at hp;rcases hp with rfl|rfl|rfl|rfl|rfl|rfl|rfl|rfl|rfl|rfl|rfl<;>refine⟨rfl,fun n hn=>?_⟩<;>simp only[AV.names,AV.Ce,C.names,Aex,Aek,or_false] at hn<;>omega)
    have hO4:∀i:Nat,O2 [(3,.c (.ptr 3 0)),(6,.c (.ptr 6 0)),(7,.c (.ptr 100 0)),(66,AD (fnD r0)),(67,AI 8),(68,AI (k:Int)),(11,AD (.raw (fnV (gsF k) r0))),(13,AD (.raw (pvo (R i).blk 0))),(75,AD (Dy R m.nodes.length)),(76,AI m.nodes.length),(77,AI (i:Int))] [(3,.box m.cs),(6,.box (Me.cs ⟨[],0,0,[]⟩))]:=fun i=>Acu (m:=m) (by intro p hp;simp only[Aex,Aek,or_false] at hp;rcases hp with rfl|rfl|rfl|rfl|rfl|rfl|rfl|rfl|rfl|rfl|rfl<;>refine⟨rfl,fun n hn=>?_⟩<;>simp only[AV.names,AV.Ce,C.names,Aex,Aek,or_false] at hn<;>omega)
    have h64:∀k,(phK m loads sil k).2.length<=64:=fun k=>by rw[Iy];omega
    have h64i:∀k i,(Iz m loads sil k (phK m loads sil k) i).2.length<=64:=fun k i=>by rw[Uw,Iy];omega
    by_cases hc8:k<8
    ·have hd:decide ((k:Int)<8)=true:=Aed (by omega)
     repeat'(first|refine sC ?_|refine Aj rfl (by exact tt0) ?_|(refine gI ?_;first|refine Aq (gk rfl) rfl rfl rfl rfl rfl (by omega) rfl ?_)|(refine gN ?_;first|refine Ak (gk rfl) rfl rfl ?_)|(refine gD ?_;first|refine Ah rfl ?_|refine At rfl (by assumption) ?_)|fail)
     refine AA (ι:=Nat) (fun i=>lsS [(3,.c (.ptr 3 0)),(6,.c (.ptr 6 0)),(7,.c (.ptr 100 0)),(66,AD (fnD r0)),(67,AI 8),(68,AI (k:Int)),(11,AD (.raw (fnV (gsF k) r0))),(75,AD (Dy R m.nodes.length)),(76,AI m.nodes.length),(77,AI (i:Int))] (fxS m.slot m.turns R m.nodes.length loads sil (Iz m loads sil k (phK m loads sil k) i).1 r0++[(3,.box m.cs),(6,.box (Me.cs ⟨[],0,0,[]⟩))]) R (Iz m loads sil k (phK m loads sil k) i).2) (fun i=>i<=m.nodes.length) (fun i=>m.nodes.length-i) 0 (AeV _) ?_ ?_
     ·exact Jt (l:=[]) (hO3 0) (h64 k) (fun n=>rfl) (by intro p hp;simp only[Aex,Aek,or_false] at hp;rcases hp with rfl|rfl|rfl|rfl|rfl|rfl|rfl|rfl|rfl|rfl|rfl<;>rfl)
     ·intro i hi;by_cases hci:i<m.nodes.length
      ·have hdi:decide ((i:Int)<(m.nodes.length:Int))=true:=Aed (by omega)
       repeat'(first|refine sA ?_|refine Aj rfl (by exact tt0) ?_|(refine gI ?_;first|refine Aq (gk rfl) rfl rfl rfl rfl rfl (by omega) rfl ?_)|refine sq 13 rfl ?_|((fail_if_success (show VC _ (.region 13 _ _) _ _));refine Be ?_)|(refine gD ?_;first|refine Ah rfl ?_|refine At rfl (by assumption) ?_)|refine BV ?_|fail)
       refine VC.le (σ':=lsS [(3,.c (.ptr 3 0)),(6,.c (.ptr 6 0)),(7,.c (.ptr 100 0)),(66,AD (fnD r0)),(67,AI 8),(68,AI (k:Int)),(11,AD (.raw (fnV (gsF k) r0))),(13,AD (.raw (pvo (R i).blk 0))),(75,AD (Dy R m.nodes.length)),(76,AI m.nodes.length),(77,AI (i:Int))] (fxS m.slot m.turns R m.nodes.length loads sil (Iz m loads sil k (phK m loads sil k) i).1 r0++[(3,.box m.cs),(6,.box (Me.cs ⟨[],0,0,[]⟩))]) R (Iz m loads sil k (phK m loads sil k) i).2) (Jt (l:=[]) (hO4 i) (h64i k i) (fun n=>rfl) (by intro p hp;simp only[Aex,Aek,or_false] at hp;rcases hp with rfl|rfl|rfl|rfl|rfl|rfl|rfl|rfl|rfl|rfl|rfl<;>rfl)) ?_;refine Qi (hO4 i) (h64i k i) (h64i k (i+1)) rfl rfl rfl rfl rfl (SF hc8) (Xp (hO4 i) hsl hn32 hll hik hc8 hci) ?_ ?_
       ·intro σ h
        repeat (first|replace h:=Ng h|replace h:=S2 h)
        rcases h.1 with h|h<;>cases h
       repeat'(first|refine sR ?_|refine Aj rfl (by first|exact tt0|omega) ?_|fail)
       refine⟨i+1,by omega,by omega,?_⟩;exact Jt (l:=[]) (hO3 (i+1)) (h64i k (i+1)) (fun n=>rfl) (by intro p hp;simp only[Aex,Aek,or_false] at hp;rcases hp with rfl|rfl|rfl|rfl|rfl|rfl|rfl|rfl|rfl|rfl|rfl<;>rfl)
      ·have hdi:decide ((i:Int)<(m.nodes.length:Int))=false:=Aee (by omega);have hin:i=m.nodes.length:=by omega
       subst hin
       repeat'(first|refine sB ?_|refine Aj rfl (by first|exact tt0|omega) ?_|(refine gD ?_;first|refine Ag rfl ?_|refine At rfl (by assumption) ?_)|fail)
       refine⟨k+1,by omega,by omega,?_⟩;exact Jt (l:=[]) (hO2 (k+1)) (h64 (k+1)) (fun n=>rfl) (by intro p hp;simp only[Aex,Aek,or_false] at hp;rcases hp with rfl|rfl|rfl|rfl|rfl|rfl|rfl|rfl|rfl|rfl|rfl<;>rfl)
    ·have hd:decide ((k:Int)<8)=false:=Aee (by omega);have hk8:k=8:=by omega
     subst hk8;have hlA:(phK m loads sil 8).2.length=m.nodes.length:=Iy 8;rw[TA];generalize phK m loads sil 8=A at hlA ⊢;have hA64:A.2.length<=64:=by omega
     rw[Dj (by omega)]
     repeat'(first|refine sC ?_|refine Aj rfl (by first|exact tt0|omega) ?_|(refine gN ?_;first|refine Ak (gk rfl) rfl rfl ?_)|refine Ap (by kernel_rfl) ?_|(refine gD ?_;first|refine Ag rfl ?_)|fail)
     refine VC.le (Mm (bx:=14) (nm:=104) (T:=45) (sz:=22) (j:=0) rfl rfl rfl) ?_;refine AA (ι:=Nat) (fun i=>lsS [(6,.c (.ptr 6 0)),(14,.c (.ptr 14 0)),(99,AD (Dy R m.nodes.length)),(100,AI m.nodes.length),(101,AI (i:Int))] (fx6 m A i) R A.2) (fun i=>i<=m.nodes.length) (fun i=>m.nodes.length-i) 0 (AeV _) ?_ ?_
     ·refine FV D0 hA64 ⟨⟨_,rfl,.c (.ptr rfl)⟩,⟨_,rfl,.c (.ptr rfl)⟩,⟨_,rfl,.c .d⟩,⟨_,rfl,.c .d⟩,⟨_,rfl,.c .d⟩,trivial⟩ ⟨⟨_,rfl,.box (CWs.Ef _)⟩,⟨_,rfl,.row (VZ.Ef _)⟩,⟨_,rfl,.row (VZ.Ef _)⟩,⟨_,rfl,.box (CWs.Ef _)⟩,trivial⟩ (fun j hj=>?_) (fun j hj=>?_) ?_ Kh
      ·simp(disch:=omega) only [St.B9,LY,F9,Ee];rw[<-Dj (by omega)];exact J7 (HY (hO2 8)) hA64 hj
      ·simp(disch:=omega) only [St.B9,LY,F9,Ee];rw[<-Dj (by omega)];exact Lo (HY (hO2 8)) hA64 hj
      ·intro p hp;simp only[Aex,Aek,or_false] at hp;rcases hp with rfl|rfl|rfl|rfl|rfl<;>refine⟨rfl,fun n hn=>?_⟩<;>simp only[AV.names,AV.Ce,C.names,Aex,Aek,or_false] at hn<;>subst hn<;>rfl
     ·intro i hi;by_cases hci:i<m.nodes.length
      ·have hdi:decide ((i:Int)<(m.nodes.length:Int))=true:=Aed (by omega);have hol:(OW A i).length=i:=Zp (by omega)
       repeat'(first|refine sA ?_|refine Aj rfl (by exact tt0) ?_|(refine gI ?_;first|refine Aq (gk rfl) rfl rfl rfl rfl rfl (by omega) rfl ?_)|refine sq 20 rfl ?_|((fail_if_success (show VC _ (.region 20 _ _) _ _));refine Be ?_)|(refine gD ?_;first|refine Ah rfl ?_|refine At rfl (by assumption) ?_)|refine BV ?_|fail)
       refine VC.le (N2 (s:=16) (nm:=8000+i) (pn:=20000+i) (r:=R i) (off:=0) rfl (Lo (l:=[]) D0 hA64 (by omega))) ?_;refine VC.le (σ':=lsS [(16,.c (.ptr (8000+i) 0)),(6,.c (.ptr 6 0)),(14,.c (.ptr 14 0)),(99,AD (Dy R m.nodes.length)),(100,AI m.nodes.length),(101,AI (i:Int))] (fx6 m A i) R A.2) ?_ ?_
       ·refine FV D0 hA64 ⟨⟨_,rfl,.c (.ptr rfl)⟩,⟨_,rfl,.c (.ptr rfl)⟩,⟨_,rfl,.c (.ptr rfl)⟩,⟨_,rfl,.c .d⟩,⟨_,rfl,.c .d⟩,⟨_,rfl,.c .d⟩,trivial⟩ ⟨⟨_,rfl,.box (CWs.Ef _)⟩,⟨_,rfl,.row (VZ.Ef _)⟩,⟨_,rfl,.row (VZ.Ef _)⟩,⟨_,rfl,.box (CWs.Ef _)⟩,trivial⟩ (fun j hj=>J7 (l:=[]) D0 hA64 hj) (fun j hj=>Lo (l:=[]) D0 hA64 hj) ?_ Kh;have hxi:=Lq (R:=R) (FX:=fx6 m A i) D0 hA64 (show i<A.2.length by omega);intro p hp;simp only[Aex,Aek,or_false] at hp;rcases hp with rfl|rfl|rfl|rfl|rfl|rfl<;>refine⟨rfl,fun n hn=>?_⟩<;>simp only[AV.names,AV.Ce,C.names,Aex,Aek,or_false] at hn<;>subst hn<;>first|rfl|exact hxi
       have hbx:stX [] (fx6 m A i) R A.2 (.b (8000+i))=some (.k (.box (A.2.getD i default).cs)):=by
        rw[<-Dj (by omega)];exact J7 D0 hA64 (by omega)
       rw[Dj (by omega)]
       repeat'(first|refine sR ?_|(refine gL ?_;first|refine Hf (gk rfl) rfl (hbx) rfl rfl rfl ?_)|refine Aj rfl (by first|exact tt0|omega) ?_|(refine gA ?_;first|refine Bf (gk rfl) rfl rfl rfl (by exact Al.symm) (by exact .row rfl (by rfl)) rfl rfl rfl (by(try dsimp only);omega) rfl rfl ?_)|(refine gN ?_;first|refine Ak (gk rfl) rfl rfl ?_)|refine Ap (by kernel_rfl) ?_|fail)
       refine⟨i+1,by omega,by omega,?_⟩;refine Aby hA64 (by omega) ?_ ?_ ?_ ?_ ?_ ?_ ?_ ?_ ?_ ?_ ?_
       all_goals first|rfl|skip
       ·intro j hj;simp(disch:=omega) only [St.B9,LY,F9,Ee];rw[<-Dj (by omega)];exact J7 D0 hA64 hj
       ·intro j hj;simp(disch:=omega) only [St.B9,LY,F9,Ee];rw[<-Dj (by omega)];exact Lo D0 hA64 hj
      ·have hdi:decide ((i:Int)<(m.nodes.length:Int))=false:=Aee (by omega);have hin:i=m.nodes.length:=by omega
       subst hin;have hoa:OW A m.nodes.length=A.2.map (·.nd):=by
        unfold OW;rw[<-hlA,List.take_length]
       repeat'(first|refine sA ?_|refine Aj rfl (by exact tt0) ?_|refine sq 22 rfl ?_|((fail_if_success (show VC _ (.region 22 _ _) _ _));refine Be ?_)|(refine gD ?_;first|refine Ag rfl ?_|refine At rfl (by assumption) ?_)|fail)
       refine VC.le (σ':=AS [(6,.c (.ptr 6 0)),(14,.c (.ptr 14 0))] [(14,.box [.d (mns (OW A m.nodes.length)),.d (.int .i64 (m.slot+1)),.d (.int .i64 m.turns),.d (ars A.1)]),(6,.box (Me.cs ⟨[],0,0,[]⟩))]) ?_ ?_
       ·refine Bv (fun n=>n) [102,104] hS ?_ ?_ rfl (by rfl)
        all_goals repeat'(first|exact tt0|refine⟨⟨_,rfl,?_⟩,?_⟩|exact .c (.ptr rfl)|exact .Bh rfl rfl|refine .box ?_|exact .nil|refine .cons ?_ ?_|exact .d|exact .Ck (by(simp;done)) rfl rfl (fun _=>rfl)|fail)
       rw[hoa]
       repeat'(first|refine sB ?_|refine Aj rfl (by exact tt0) ?_|fail)
       exact P.Jh Ab rfl rfl rfl rfl rfl
end Go.Proofs.M
end
section
namespace Go.Proofs.M
open Go Go.Sx Go.Proofs Go.Proofs.T Go.Proofs.Q
open Go.Proofs.P (Nb nbs Rk rkA rkErr checkNb hearM countM forgetM select')
open Go.Proofs.R (startM advM)
set_option maxRecDepth 4000
attribute [local irreducible] VR VC thenQ blockQ retL
def spK (t:Tb) (k:Nat):List Sp:=((t.cells.take k).filter fun c=>decide (c.kind=3)).map fun c=>⟨c.slot,c.offset⟩
theorem Y9 (t:Tb) (k:Nat):(spK t k).length<=t.cells.length:=by
 unfold spK;have h1:=AeN (fun c:TC=>decide (c.kind=3)) (t.cells.take k);rw[Aet];rw[Aem] at h1;omega
theorem Za (t:Tb):spK t t.cells.length=G4 t:=by unfold spK G4;rw[List.take_length]
theorem Wg {t:Tb} {k:Nat} (hk:k<t.cells.length):spK t (k+1)=if(t.cells.getD k default).kind=3 then spK t k++[⟨(t.cells.getD k default).slot,(t.cells.getD k default).offset⟩] else spK t k:=by
 unfold spK;have e:t.cells.take (k+1)=t.cells.take k++[t.cells.getD k default]:=by
  rw[List.take_add_one,Aec,Ael hk];rfl
 rw[e,List.filter_append,Ae2];by_cases h:(t.cells.getD k default).kind=3
 ·rw[AeT h];simp only[List.filter_cons,Aed h,List.filter_nil,if_true,List.map_cons,List.map_nil]
 ·rw[AeS h];simp only[List.filter_cons,Aee h,List.filter_nil,Bool.false_eq_true,if_false,List.map_nil,Aez]
set_option maxHeartbeats 1000000 in
theorem FA (t:Tb) (hl:t.cells.length<=100000):FnS Tryz.prog 70 [tbA t] [] (AD (sps (G4 t))) []:=by
 refine fb Tryz.func70 (by kernel_rfl) rfl Tryz.ntmps70 Tryz.results70 rfl rfl rfl rfl fun E hS=>?_
 refine AK ?_
 repeat'(first|refine sC ?_|refine Aj rfl (by exact tt0) ?_|fail)
 refine VC.le (le_nil (t:=3) (nm:=103) (T:=115) (sz:=2) rfl rfl) ?_;refine AA (ι:=Nat) (fun k=>AS [(1,.c (.ptr 1 0)),(3,.c (.row 103 (spK t k).length)),(7,AD (tcs t.cells)),(8,AI t.cells.length),(9,AI k)] [(1,.box t.cs),(103,.row 115 2 (rowOf Sp.enc (spK t k)))]) (fun k=>k<=t.cells.length) (fun k=>t.cells.length-k) 0 (AeV _) ?_ ?_
 ·refine lg ?_ ?_ rfl (by rfl)
  all_goals repeat'(first|exact tt0|refine⟨⟨_,rfl,?_⟩,?_⟩|exact .c .d|exact .c (.ptr rfl)|exact .c (.row rfl rfl)|exact .Bh rfl rfl|exact .Bc rfl Ai|fail)
 ·intro k hk;have hkl:=Y9 t k;by_cases hc:k<t.cells.length
  ·have hd:decide ((k:Int)<(t.cells.length:Int))=true:=Aed (by omega);have hs:=Wg hc;by_cases h3:(t.cells.getD k default).kind=3
   ·have d3:decide ((t.cells.getD k default).kind=3)=true:=Aed h3;rw[AeT h3] at hs
    repeat'(first|refine sC ?_|refine Aj rfl (by first|exact tt0|omega) ?_|(refine gI ?_;first|refine Aq (gk rfl) rfl rfl rfl rfl rfl (by omega) rfl ?_)|(refine gA ?_;first|refine Bf (gk rfl) rfl rfl rfl (by exact Al.symm) (by exact .row rfl (by rfl)) rfl rfl rfl (by(try dsimp only);omega) rfl rfl ?_)|(refine gD ?_;first|refine Ah rfl ?_|refine At rfl (by assumption) ?_)|fail)
    refine⟨k+1,by omega,by omega,?_⟩;rw[hs,Aeh];refine Am (fun n=>if n=103 then 23 else n) ?_ ?_ rfl (by(simp only[wfL,wfs,Ae,Ad];rfl))
    all_goals repeat'(first|exact tt0|refine⟨⟨_,rfl,?_⟩,?_⟩|exact .c .d|exact .c (.ptr rfl)|exact .c (.row rfl rfl)|exact .Bh rfl rfl|(refine .Bc ?_ Ai;rw[A4];rfl)|fail)
   ·have d3:decide ((t.cells.getD k default).kind=3)=false:=Aee h3;rw[AeS h3] at hs
    repeat'(first|refine sC ?_|refine Aj rfl (by first|exact tt0|omega) ?_|(refine gI ?_;first|refine Aq (gk rfl) rfl rfl rfl rfl rfl (by omega) rfl ?_)|(refine gD ?_;first|refine Ah rfl ?_|refine Ag rfl ?_|refine At rfl (by assumption) ?_)|fail)
    refine⟨k+1,by omega,by omega,?_⟩;rw[hs];refine Am (fun n=>n) ?_ ?_ rfl (by(simp only[wfL,wfs,Ae,Ad];rfl))
    all_goals repeat'(first|exact tt0|refine⟨⟨_,rfl,?_⟩,?_⟩|exact .c .d|exact .c (.ptr rfl)|exact .c (.row rfl rfl)|exact .Bh rfl rfl|exact .Bc rfl Ai|fail)
  ·have hd:decide ((k:Int)<(t.cells.length:Int))=false:=Aee (by omega);have hkl:k=t.cells.length:=by omega
   subst hkl;rw[<-Za]
   repeat'(first|refine sB ?_|refine Aj rfl (by exact tt0) ?_|(refine gD ?_;first|refine Ag rfl ?_|refine At rfl (by assumption) ?_)|fail)
   refine An (Bv (l:=[(2,AD (sps (spK t t.cells.length)))]) (b:=[]) (fun n=>n) [103] hS ?_ ?_ rfl (by rfl)) (RY Ab rfl rfl)
   all_goals repeat'(first|exact tt0|refine⟨⟨_,rfl,?_⟩,?_⟩|exact .c (.Ck (by(simp;done)) rfl rfl (fun _=>rfl))|fail)
theorem On (a b:List Sp):FnS Tryz.prog 69 [AD (sps a),AD (sps b)] [] (AB (decide (a=b))) []:=by
 refine fb Tryz.func69 (by kernel_rfl) rfl Tryz.ntmps69 Tryz.results69 rfl rfl rfl rfl fun E hS=>?_
 refine BP (t:=0) rfl fun hb=>?_
 repeat'(first|refine sC ?_|refine Aj rfl (by exact tt0) ?_|(refine gD ?_;first|(refine Ay rfl ?_ ?_<;>intro h<;>have hq:=h<;>(try simp only[hqs] at hq)))|fail)
 ·refine As Ab rfl ?_;have:a≠b:=fun e=>by subst e;simp_all
  simp[this]
 ·refine AA (ι:=Nat) (fun k=>AS [(0,AD (sps a)),(1,AD (sps b)),(12,AI a.length),(13,AI k)] []) (fun k=>k<=a.length/\∀i,i<k->a.getD i default=b.getD i default) (fun k=>a.length-k) 0 ⟨AeV _,fun i hi=>absurd hi (AeQ _)⟩ ?_ ?_
  ·exact B4 ⟨rfl,rfl,rfl,rfl,trivial⟩ trivial rfl
  ·rintro k ⟨hk,hall⟩
   repeat'(first|refine sC ?_|refine Aj rfl (by first|exact tt0|omega) ?_|(refine gI ?_;first|refine Aq (gk rfl) rfl rfl rfl rfl rfl (by omega) rfl ?_)|(refine gB ?_;first|refine Fu (gk rfl) rfl rfl rfl rfl rfl rfl rfl ?_)|refine Ap (by kernel_rfl) ?_|(refine gD ?_;first|(refine Ay rfl ?_ ?_<;>intro h<;>have hq:=h<;>(try simp only[hqs] at hq)))|fail)
   ·refine As Ab rfl ?_;have:a≠b:=fun e=>hq (by rw[e])
    simp[this]
   ·refine⟨k+1,⟨by omega,fun i hi=>?_⟩,by omega,B4 ⟨rfl,rfl,rfl,rfl,trivial⟩ trivial rfl⟩;by_cases hik:i<k
    ·exact hall i hik
    ·have:i=k:=by omega
     subst this;exact AcV hq
   ·refine As Ab rfl ?_;have:a=b:=Go.Sx.ED (by omega) fun i hi=>hall i (by omega)
    simp[this]
abbrev Jo (p:Nb->Bool):List DV->DV->Prop:=fun ds r=>∃x:Nb,ds=[.agg x.enc]/\r=.d (.bool (p x))
theorem ZJ (l:List Nb) (p:Nb->Bool):FnS Tryz.prog 117 [AD (nbs l),.clo (Jo p)] [] (AI (oI (Fl l p))) []:=by
 refine fb Tryz.func117 (by kernel_rfl) rfl Tryz.ntmps117 Tryz.results117 rfl rfl rfl rfl fun E hS=>?_
 refine BP (t:=0) rfl fun hb=>?_
 repeat'(first|refine sC ?_|refine Aj rfl (by exact tt0) ?_|fail)
 refine AA (ι:=Nat) (fun k=>AS [(0,AD (nbs l)),(1,.clo (Jo p)),(7,AI l.length),(8,AI k)] []) (fun k=>k<=l.length/\∀i,i<k->p (l.getD i default)=false) (fun k=>l.length-k) 0 ⟨AeV _,fun i hi=>absurd hi (AeQ _)⟩ ?_ ?_
 ·exact B4 ⟨rfl,rfl,rfl,rfl,trivial⟩ trivial rfl
 ·intro k hk
  repeat'(first|refine sC ?_|refine Aj rfl (by first|exact tt0|omega) ?_|(refine gC ?_;first|refine EV (⟨_,rfl,rfl⟩) (gk rfl) rfl rfl rfl rfl ?_)|(refine gI ?_;first|refine Aq (gk rfl) rfl rfl rfl rfl rfl (by omega) rfl ?_)|(refine gD ?_;first|(refine Ay rfl ?_ ?_<;>intro h<;>have hq:=h<;>(try simp only[hqs] at hq)))|fail)
  ·refine AG Ab rfl ?_;rw[Er hk.2 (by omega) h];rfl
  ·refine⟨k+1,⟨by omega,fun i hi=>?_⟩,by omega,B4 ⟨rfl,rfl,rfl,rfl,trivial⟩ trivial rfl⟩;by_cases hik:i<k
   ·exact hk.2 i hik
   ·have:i=k:=by omega
    subst this;exact h
  ·refine AG Ab rfl ?_;have:k=l.length:=by omega
   subst this;rw[DI hk.2];rfl
theorem Ox (l:List Nb) (p:Nb->Bool):FnS Tryz.prog 74 [AD (nbs l),.clo (Jo p)] [] (AB (l.any p)) []:=by
 refine fb Tryz.func74 (by kernel_rfl) rfl Tryz.ntmps74 Tryz.results74 rfl rfl rfl rfl fun E hS=>?_
 repeat'(first|refine sB ?_|refine Aj rfl (by exact tt0) ?_|(refine gC ?_;first|refine AJ [] (ZJ l p) (gk rfl) rfl (by(repeat'(first|exact .nil|refine .cons ?_ ?_|exact .of0 (.c .d)|exact .clo))<;>fail) (by rfl) rfl (by rfl) rfl (by rfl) rfl ?_)|fail)
 all_goals exact As Ab rfl (E1 _ _).symm
def Aam (m:Me) (x:Nb):Bool:=decide ((m.nodes.length:Int)<=x.node)
theorem Pu (x:Nb) (m:Me):FnS Tryz.prog 71 [.agg x.cs,.ep (fun j=>m.enc.getD j .Dh) 4] [] (AB (Aam m x)) []:=by
 refine fb Tryz.func71 (by kernel_rfl) rfl Tryz.ntmps71 Tryz.results71 rfl rfl rfl rfl fun E hS=>?_
 repeat'(first|refine sB ?_|refine Aj rfl (by exact tt0) ?_|fail)
 all_goals(refine As Ab rfl ?_;unfold Aam;first|rfl|(simp_all;done)|(simp_all;omega))
theorem RX {σ:St} {m:Me} {n1:Nat} {L:List Nat} (hL:n1∈L) (h1:σ (.b n1)=some (.k (.box m.cs))):AR Tryz.prog σ L (.fnc 71 [.ptr n1 0]) (.clo (Jo (Aam m))):=
 .fnc (eps:=[.ep (fun j=>m.enc.getD j .Dh) 4]) (.cons (.ptr hL h1 (fun j hj=>by
  have:j=0\/j=1\/j=2\/j=3:=by omega
  rcases this with rfl|rfl|rfl|rfl<;>rfl)) .nil) (enters_of Tryz.func71 (by kernel_rfl) rfl)
  (by rintro _ _ ⟨x,rfl,rfl⟩;exact⟨rfl,Pu x m⟩)
theorem RV (m:Me) (i:Nat) (hi:i<m.nodes.length) (h0:AT (m.nodes.getD i default).st=0->(m.nodes.getD 0 default).st.tb.cells.length<=100000) (h1:AT (m.nodes.getD i default).st=0->(m.nodes.getD i default).st.tb.cells.length<=100000):
  FnS Tryz.prog 44 [meA m,AI (i:Int)] [] (AB (FR m i)) []:=by
 have c1:=Dl (m.nodes.getD i default).st;have c2:=P.Dg (m.nodes.getD i default).rk;have c3:=P.BE (m.nodes.getD i default).nb;have c4:=Ox (m.nodes.getD i default).nb (Aam m);have h00:0<m.nodes.length:=by omega
 by_cases hck:AT (m.nodes.getD i default).st=0
 ·have c5:=FA (m.nodes.getD 0 default).st.tb (h0 hck);have c6:=FA (m.nodes.getD i default).st.tb (h1 hck);clear h0 h1;have c7:=On (G4 (m.nodes.getD i default).st.tb) (G4 (m.nodes.getD 0 default).st.tb);have d1:decide (AT (m.nodes.getD i default).st≠0)=false:=Aee (fun h=>h hck);refine fb Tryz.func44 (by kernel_rfl) rfl Tryz.ntmps44 Tryz.results44 rfl rfl rfl rfl fun E hS=>?_
  repeat'(first|refine sB ?_|refine Aj rfl (by exact tt0) ?_|(refine gC ?_;first|refine Aa (c1) (gk rfl) rfl rfl rfl (by rfl) rfl (by rfl) rfl ?_|refine Aa (c2) (gk rfl) rfl rfl rfl (by rfl) rfl (by rfl) rfl ?_|refine Aa (c3) (gk rfl) rfl rfl rfl (by rfl) rfl (by rfl) rfl ?_|refine Aa (c5) (gk rfl) rfl rfl rfl (by rfl) rfl (by rfl) rfl ?_|refine Aa (c6) (gk rfl) rfl rfl rfl (by rfl) rfl (by rfl) rfl ?_|refine Aa (c7) (gk rfl) rfl rfl rfl (by rfl) rfl (by rfl) rfl ?_|refine AJ [2] (c4) (gk rfl) rfl (by(repeat'(first|exact .nil|refine .cons ?_ ?_|exact .of0 (.c .d)|exact(RX (by simp) rfl)))<;>fail) (by rfl) rfl (by rfl) rfl (by rfl) rfl ?_)|(refine gI ?_;first|refine Aq (gk rfl) rfl rfl rfl rfl rfl (by omega) rfl ?_)|refine Az rfl (by assumption) ?_|(refine Ax rfl ?_ ?_<;>intro h<;>have hq:=h<;>(try simp only[hqs] at hq))|refine Ap (by kernel_rfl) ?_|(refine gD ?_;first|refine Ah rfl ?_|(refine Ay rfl ?_ ?_<;>intro h<;>have hq:=h<;>(try simp only[hqs] at hq)))|fail)
  all_goals refine As Ab rfl ?_
  all_goals clear c1 c2 c3 c4 c5 c6 c7 d1
  all_goals unfold FR
  all_goals rw[show(fun n:Nb=>decide ((m.nodes.length:Int)<=n.node))=Aam m from rfl]
  all_goals generalize m.nodes.getD i default=x at *
  all_goals generalize m.nodes.getD 0 default=y at *
  all_goals generalize x.nb.any (Aam m)=B at *
  all_goals first|(simp_all;done)|(simp_all;omega)
 ·have d1:decide (AT (m.nodes.getD i default).st≠0)=true:=Aed hck;refine fb Tryz.func44 (by kernel_rfl) rfl Tryz.ntmps44 Tryz.results44 rfl rfl rfl rfl fun E hS=>?_
  repeat'(first|refine sB ?_|refine Aj rfl (by exact tt0) ?_|(refine gC ?_;first|refine Aa (c1) (gk rfl) rfl rfl rfl (by rfl) rfl (by rfl) rfl ?_)|(refine gI ?_;first|refine Aq (gk rfl) rfl rfl rfl rfl rfl (by omega) rfl ?_)|refine Az rfl (by assumption) ?_|refine Ap (by kernel_rfl) ?_|(refine gD ?_;first|refine Ah rfl ?_)|fail)
  all_goals refine As Ab rfl ?_
  all_goals unfold FR
  all_goals rw[Aee (fun h=>hck h.1)];rfl
theorem RW {m:Me} {i:Nat} (h:FR m i=true):(m.nodes.getD i default).st.tb.cells.length<=100000:=by
 have:=(Cm (Bl ((Iv.1 h).st)).1).1;omega
set_option maxHeartbeats 1000000 in
theorem BE (m:Me):FnS Tryz.prog 15 [meA m] [] (AI (Cj m)) []:=by
 have hst:∀i,AT (m.nodes.getD i default).st=0->(m.nodes.getD i default).st.tb.cells.length<=100000:=fun i h=>by
  have:=(Cm (Bl h).1).1;omega
 refine fb Tryz.func15 (by kernel_rfl) rfl Tryz.ntmps15 Tryz.results15 rfl rfl rfl rfl fun E hS=>?_
 repeat'(first|refine sC ?_|refine Aj rfl (by exact tt0) ?_|(refine Ax rfl ?_ ?_<;>intro h<;>have hq:=h<;>(try simp only[hqs] at hq))|(refine gD ?_;first|refine Ah rfl ?_|(refine Ay rfl ?_ ?_<;>intro h<;>have hq:=h<;>(try simp only[hqs] at hq)))|fail)
 all_goals first
  |(refine AG Ab rfl ?_;exact AeT (by omega))
  |skip
 have e:Cj m=if(List.range m.nodes.length).any (fun i=>!FR m i) then 1 else 0:=AeS (by omega)
 rw[e];refine AA (ι:=Nat) (fun k=>AS [(1,.c (.ptr 1 0)),(42,AI m.nodes.length),(43,AI k)] [(1,.box m.cs)]) (fun k=>k<=m.nodes.length/\∀i,i<k->FR m i=true) (fun k=>m.nodes.length-k) 0 ⟨AeV _,fun i hi=>absurd hi (AeQ _)⟩ ?_ ?_
 ·refine lg ?_ ?_ rfl (by rfl)
  all_goals repeat'(first|exact tt0|refine⟨⟨_,rfl,?_⟩,?_⟩|exact .c .d|exact .c (.ptr rfl)|exact .Bh rfl rfl|fail)
 ·rintro k ⟨hk,hall⟩;by_cases hc:k<m.nodes.length
  ·have hd:decide ((k:Int)<(m.nodes.length:Int))=true:=Aed (by omega);have hr:=RV m k hc (fun h=>by
    rcases Nat.eq_zero_or_pos k with h0|h0
    ·subst h0;exact hst 0 h
    ·exact RW (hall 0 h0)) (hst k)
   cases hrk:FR m k with
   |true=>
    have d1:(!FR m k)=false:=by rw[hrk];rfl
    repeat'(first|refine sC ?_|refine Aj rfl (by first|exact tt0|omega) ?_|(refine gC ?_;first|refine Aa (hr) (gk rfl) rfl rfl rfl (by rfl) rfl (by rfl) rfl ?_)|(refine gD ?_;first|refine Ah rfl ?_|refine Ag rfl ?_|refine At rfl (by assumption) ?_)|fail)
    refine⟨k+1,⟨by omega,fun i hi=>?_⟩,by omega,?_⟩
    ·by_cases h:i<k
     ·exact hall i h
     ·have:i=k:=by omega
      subst this;exact hrk
    ·refine lg ?_ ?_ rfl (by rfl)
     all_goals repeat'(first|exact tt0|refine⟨⟨_,rfl,?_⟩,?_⟩|exact .c .d|exact .c (.ptr rfl)|exact .Bh rfl rfl|fail)
   |false=>
    have d1:(!FR m k)=true:=by rw[hrk];rfl
    repeat'(first|refine sC ?_|refine Aj rfl (by exact tt0) ?_|(refine gC ?_;first|refine Aa (hr) (gk rfl) rfl rfl rfl (by rfl) rfl (by rfl) rfl ?_)|(refine gD ?_;first|refine Ah rfl ?_|refine At rfl (by assumption) ?_)|fail)
    refine AG Ab rfl ?_;exact AeT (Aev.2 ⟨k,AeL.2 hc,d1⟩)
  ·have hd:decide ((k:Int)<(m.nodes.length:Int))=false:=Aee (by omega)
   repeat'(first|refine sB ?_|refine Aj rfl (by exact tt0) ?_|(refine gD ?_;first|refine Ag rfl ?_|refine At rfl (by assumption) ?_)|fail)
   refine AG Ab rfl ?_;refine AeS fun h=>?_
   obtain⟨i,hi,h2⟩:=Aev.1 h;rw[hall i (by have:=AeL.1 hi;omega)] at h2;cases h2
theorem J6 (m:Me) (loads:List Ld) (sil:List Si):FnS Tryz.prog 54 [meA m,AD (lds loads),AD (sis sil)] [] (AI (C4 m loads sil)) []:=by
 have hck:=BE m;refine fb Tryz.func54 (by kernel_rfl) rfl Tryz.ntmps54 Tryz.results54 rfl rfl rfl rfl fun E hS=>?_
 by_cases h:Cj m=0
 ·have d1:decide (Cj m≠0)=false:=Aee (fun hn=>hn h);have e:C4 m loads sil=if 1024<loads.length\/1024<sil.length then 8 else 0:=AeS (fun hn=>hn h)
  rw[e]
  repeat'(first|refine sC ?_|refine Aj rfl (by exact tt0) ?_|(refine gC ?_;first|refine Aa (hck) (gk rfl) rfl rfl rfl (by rfl) rfl (by rfl) rfl ?_)|(refine Ax rfl ?_ ?_<;>intro h<;>have hq:=h<;>(try simp only[hqs] at hq))|(refine gD ?_;first|refine Ah rfl ?_|refine Ag rfl ?_|refine At rfl (by assumption) ?_|(refine Ay rfl ?_ ?_<;>intro h<;>have hq:=h<;>(try simp only[hqs] at hq)))|fail)
  all_goals(refine AG Ab rfl ?_;first|exact AeT (by omega)|exact AeS (by omega))
 ·have d1:decide (Cj m≠0)=true:=Aed h
  repeat'(first|refine sC ?_|refine Aj rfl (by exact tt0) ?_|(refine gC ?_;first|refine Aa (hck) (gk rfl) rfl rfl rfl (by rfl) rfl (by rfl) rfl ?_)|(refine gD ?_;first|refine Ah rfl ?_|refine At rfl (by assumption) ?_)|fail)
  exact AG Ab rfl (AeT h)
theorem Adb {m:Me} (hm:Cj m=0):IK m.nodes.length 0 (m.arr,C6 m):=by
 obtain⟨hh,hr⟩:=DU.1 hm;refine⟨hh.a1,by simp[C6],fun j _ hj=>?_⟩;have e:(C6 m).getD j default=Aaw (m.nodes.getD j default) j:=by simp[C6,Aec,hj]
 show WOK j ((C6 m).getD j default);rw[e];exact⟨rfl,(hr j hj).st,(hr j hj).nx⟩
theorem Tz {m:Me} {loads:List Ld} {sil:List Si} (hm:Cj m=0) (hl:loads.length<=1024):FnS Tryz.prog 55 [meA m,AD (lds loads),AD (sis sil)] [] (meA (GX m loads sil)) []:=by
 obtain⟨hh,hr⟩:=DU.1 hm;obtain⟨g1,g2,g3,g4,g5,g6,g7⟩:=hh;exact Ty m loads sil (by omega) (by omega) (by omega) (by omega) (Adb hm)
theorem Nj {m:Me} {loads:List Ld} {sil:List Si} (h:C4 m loads sil=0):Cj m=0/\loads.length<=1024/\sil.length<=1024:=by
 unfold C4 at h
 split at h
 ·cases h
 ·rename_i hc
  split at h
  ·cases h
  ·omega
theorem Sf (m:Me) (loads:List Ld) (sil:List Si):FnS Tryz.prog 34 [meA m,AD (lds loads),AD (sis sil)] [] (.tup [meA (RM m loads sil).1,AI (RM m loads sil).2]) []:=by
 have hst:=J6 m loads sil;refine fb Tryz.func34 (by kernel_rfl) rfl Tryz.ntmps34 Tryz.results34 rfl rfl rfl rfl fun E hS=>?_
 refine AK ?_;by_cases h:C4 m loads sil=0
 ·have d1:decide (C4 m loads sil≠0)=false:=Aee (fun hn=>hn h);obtain⟨hm,hl,_⟩:=Nj h;have hstep:=Tz (sil:=sil) hm hl;have e:RM m loads sil=if 16384<=m.slot then(noM,21) else(GX m loads sil,0):=AeS (fun hn=>hn h)
  rw[e];by_cases h2:16384<=m.slot
  ·have d2:decide (16384<=m.slot)=true:=Aed h2;rw[AeT h2]
   repeat'(first|refine sB ?_|refine Aj rfl (by exact tt0) ?_|(refine gC ?_;first|refine Aa (hst) (gk rfl) rfl rfl rfl (by rfl) rfl (by rfl) rfl ?_)|(refine gD ?_;first|refine Ah rfl ?_|refine Ag rfl ?_|refine At rfl (by assumption) ?_)|fail)
   refine An (Am (l:=[(6,.c (.ptr 6 0)),(7,AI 21)]) (b:=[(6,.box noM.cs)]) (fun n=>n) ?_ ?_ rfl (by rfl)) (AL Ab rfl rfl rfl rfl rfl rfl rfl)
   all_goals repeat'(first|exact tt0|refine⟨⟨_,rfl,?_⟩,?_⟩|exact .c .d|exact .c (.ptr rfl)|refine .box ?_|exact .nil|refine .cons ?_ ?_|exact .d|fail)
  ·have d2:decide (16384<=m.slot)=false:=Aee h2;rw[AeS h2]
   repeat'(first|refine sB ?_|refine Aj rfl (by exact tt0) ?_|(refine gC ?_;first|refine Aa (hst) (gk rfl) rfl rfl rfl (by rfl) rfl (by rfl) rfl ?_|refine Aa (hstep) (gk rfl) rfl rfl rfl (by rfl) rfl (by rfl) rfl ?_)|(refine gD ?_;first|refine Ag rfl ?_|refine At rfl (by assumption) ?_)|fail)
   refine An (Am (l:=[(6,.c (.ptr 6 0)),(7,AI 0)]) (b:=[(6,.box (GX m loads sil).cs)]) (fun n=>n) ?_ ?_ rfl (by rfl)) (AL Ab rfl rfl rfl rfl rfl rfl rfl)
   all_goals repeat'(first|exact tt0|refine⟨⟨_,rfl,?_⟩,?_⟩|exact .c .d|exact .c (.ptr rfl)|exact .Bh rfl rfl|fail)
 ·have d1:decide (C4 m loads sil≠0)=true:=Aed h;have e:RM m loads sil=(noM,C4 m loads sil):=AeT h;rw[e]
  repeat'(first|refine sB ?_|refine Aj rfl (by exact tt0) ?_|(refine gC ?_;first|refine Aa (hst) (gk rfl) rfl rfl rfl (by rfl) rfl (by rfl) rfl ?_)|(refine gD ?_;first|refine Ah rfl ?_|refine At rfl (by assumption) ?_)|fail)
  refine An (Am (l:=[(6,.c (.ptr 6 0)),(7,AI (C4 m loads sil))]) (b:=[(6,.box noM.cs)]) (fun n=>n) ?_ ?_ rfl (by rfl)) (AL Ab rfl rfl rfl rfl rfl rfl rfl)
  all_goals repeat'(first|exact tt0|refine⟨⟨_,rfl,?_⟩,?_⟩|exact .c .d|exact .c (.ptr rfl)|refine .box ?_|exact .nil|refine .cons ?_ ?_|exact .d|fail)
set_option maxHeartbeats 1000000 in
theorem NN (m:Me) (CN:Int) (loads:List Ld) (sil:List Si):FnS Tryz.prog 23 [meA m,AI CN,AD (lds loads),AD (sis sil)] [] (.tup [meA (RS m CN loads sil).1,AI (RS m CN loads sil).2]) []:=by
 have hst:=J6 m loads sil;refine fb Tryz.func23 (by kernel_rfl) rfl Tryz.ntmps23 Tryz.results23 rfl rfl rfl rfl fun E hS=>?_
 refine AK ?_;by_cases h:C4 m loads sil=0
 ·have d1:decide (C4 m loads sil≠0)=false:=Aee (fun hn=>hn h);obtain⟨hm,hl,_⟩:=Nj h;obtain⟨hh,_⟩:=DU.1 hm;have hs1:=hh.s1;have hs2:=hh.s2;have e:RS m CN loads sil=if CN<0\/4096<CN then(noM,2) else if 16384<m.slot+CN then(noM,21) else(runN loads sil CN.toNat m,0):=AeS (fun hn=>hn h)
  rw[e];by_cases h2:CN<0\/4096<CN
  ·rw[AeT h2]
   repeat'(first|refine sC ?_|refine Aj rfl (by first|exact tt0|omega) ?_|(refine gC ?_;first|refine Aa (hst) (gk rfl) rfl rfl rfl (by rfl) rfl (by rfl) rfl ?_)|(refine Ax rfl ?_ ?_<;>intro h<;>have hq:=h<;>(try simp only[hqs] at hq))|(refine gD ?_;first|refine Ah rfl ?_|refine Ag rfl ?_|refine At rfl (by assumption) ?_|(refine Ay rfl ?_ ?_<;>intro h<;>have hq:=h<;>(try simp only[hqs] at hq)))|fail)
   all_goals first
    |(exfalso;omega)
    |skip
   all_goals
    refine An (Am (l:=[(8,.c (.ptr 8 0)),(9,AI 2)]) (b:=[(8,.box noM.cs)]) (fun n=>n) ?_ ?_ rfl (by rfl)) (AL Ab rfl rfl rfl rfl rfl rfl rfl)
    all_goals repeat'(first|exact tt0|refine⟨⟨_,rfl,?_⟩,?_⟩|exact .c .d|exact .c (.ptr rfl)|refine .box ?_|exact .nil|refine .cons ?_ ?_|exact .d|fail)
  ·rw[AeS h2];have d2:decide (CN<0)=false:=Aee (by omega);have d3:decide (4096<CN)=false:=Aee (by omega);by_cases h3:16384<m.slot+CN
   ·have d4:decide (16384<m.slot+CN)=true:=Aed h3;rw[AeT h3]
    repeat'(first|refine sC ?_|refine Aj rfl (by first|exact tt0|omega) ?_|(refine gC ?_;first|refine Aa (hst) (gk rfl) rfl rfl rfl (by rfl) rfl (by rfl) rfl ?_)|refine Az rfl (by assumption) ?_|(refine gD ?_;first|refine Ah rfl ?_|refine Ag rfl ?_|refine At rfl (by assumption) ?_)|fail)
    refine An (Am (l:=[(8,.c (.ptr 8 0)),(9,AI 21)]) (b:=[(8,.box noM.cs)]) (fun n=>n) ?_ ?_ rfl (by rfl)) (AL Ab rfl rfl rfl rfl rfl rfl rfl)
    all_goals repeat'(first|exact tt0|refine⟨⟨_,rfl,?_⟩,?_⟩|exact .c .d|exact .c (.ptr rfl)|refine .box ?_|exact .nil|refine .cons ?_ ?_|exact .d|fail)
   ·have d4:decide (16384<m.slot+CN)=false:=Aee h3;rw[AeS h3]
    repeat'(first|refine sC ?_|refine Aj rfl (by first|exact tt0|omega) ?_|(refine gC ?_;first|refine Aa (hst) (gk rfl) rfl rfl rfl (by rfl) rfl (by rfl) rfl ?_)|refine Az rfl (by assumption) ?_|(refine gD ?_;first|refine Ag rfl ?_|refine At rfl (by assumption) ?_)|fail)
    refine AA (ι:=Nat) (fun k=>AS [(2,AD (lds loads)),(3,AD (sis sil)),(8,.c (.ptr 8 0)),(4,.c (.ptr 4 0)),(9,AI 0),(35,AI CN),(36,AI k)] [(4,.box (runN loads sil k m).cs),(8,.box noM.cs)]) (fun k=>(k:Int)<=CN) (fun k=>CN.toNat-k) 0 (by show(0:Int)<=CN;omega) ?_ ?_
    ·refine lg ?_ ?_ rfl (by rfl)
     all_goals repeat'(first|exact tt0|refine⟨⟨_,rfl,?_⟩,?_⟩|exact .c .d|exact .c (.ptr rfl)|exact .Bh rfl rfl|refine .box ?_|exact .nil|refine .cons ?_ ?_|exact .d|fail)
    ·intro k hk;obtain⟨r1,r2,_,_⟩:=JR (loads:=loads) (sil:=sil) hm k (by omega);have hstep:=Tz (sil:=sil) r1 hl;by_cases hc:(k:Int)<CN
     ·have hd:decide ((k:Int)<CN)=true:=Aed hc
      repeat'(first|refine sC ?_|refine Aj rfl (by first|exact tt0|omega) ?_|(refine gC ?_;first|refine Aa (hstep) (gk rfl) rfl rfl rfl (by rfl) rfl (by rfl) rfl ?_)|(refine gD ?_;first|refine Ah rfl ?_|refine At rfl (by assumption) ?_)|fail)
      refine⟨k+1,by omega,by omega,?_⟩;show Le _ _ (AS [(2,AD (lds loads)),(3,AD (sis sil)),(8,.c (.ptr 8 0)),(4,.c (.ptr 4 0)),(9,AI 0),(35,AI CN),(36,AI ((k+1:Nat):Int))] [(4,.box (GX (runN loads sil k m) loads sil).cs),(8,.box noM.cs)]);refine lg ?_ ?_ rfl (by rfl)
      all_goals repeat'(first|exact tt0|refine⟨⟨_,rfl,?_⟩,?_⟩|exact .c .d|exact .c (.ptr rfl)|exact .Bh rfl rfl|fail)
     ·have hd:decide ((k:Int)<CN)=false:=Aee hc;have hks:CN.toNat=k:=by omega
      rw[hks]
      repeat'(first|refine sB ?_|refine Aj rfl (by exact tt0) ?_|(refine gD ?_;first|refine Ag rfl ?_|refine At rfl (by assumption) ?_)|fail)
      refine An (Am (l:=[(8,.c (.ptr 8 0)),(9,AI 0)]) (b:=[(8,.box (runN loads sil k m).cs)]) (fun n=>n) ?_ ?_ rfl (by rfl)) (AL Ab rfl rfl rfl rfl rfl rfl rfl)
      all_goals repeat'(first|exact tt0|refine⟨⟨_,rfl,?_⟩,?_⟩|exact .c .d|exact .c (.ptr rfl)|exact .Bh rfl rfl|fail)
 ·have d1:decide (C4 m loads sil≠0)=true:=Aed h;have e:RS m CN loads sil=(noM,C4 m loads sil):=AeT h;rw[e]
  repeat'(first|refine sC ?_|refine Aj rfl (by exact tt0) ?_|(refine gC ?_;first|refine Aa (hst) (gk rfl) rfl rfl rfl (by rfl) rfl (by rfl) rfl ?_)|(refine gD ?_;first|refine Ah rfl ?_|refine At rfl (by assumption) ?_)|fail)
  refine An (Am (l:=[(8,.c (.ptr 8 0)),(9,AI (C4 m loads sil))]) (b:=[(8,.box noM.cs)]) (fun n=>n) ?_ ?_ rfl (by rfl)) (AL Ab rfl rfl rfl rfl rfl rfl rfl)
  all_goals repeat'(first|exact tt0|refine⟨⟨_,rfl,?_⟩,?_⟩|exact .c .d|exact .c (.ptr rfl)|refine .box ?_|exact .nil|refine .cons ?_ ?_|exact .d|fail)
def paK (m:Me) (k:Nat):List Int:=(m.nodes.take k).map fun x=>x.rk.parent
theorem WC {m:Me} {k:Nat} (hk:k<m.nodes.length):paK m (k+1)=paK m k++[(m.nodes.getD k default).rk.parent]:=by
 unfold paK;rw[List.take_add_one,Ae2,Aec,Ael hk];rfl
theorem Zo {m:Me} {k:Nat} (hk:k<=m.nodes.length):(paK m k).length=k:=by simp[paK,hk]
set_option maxHeartbeats 1000000 in
theorem NA (m:Me):FnS Tryz.prog 18 [meA m] [] (AD (ints (HP m))) []:=by
 have hck:=BE m;refine fb Tryz.func18 (by kernel_rfl) rfl Tryz.ntmps18 Tryz.results18 rfl rfl rfl rfl fun E hS=>?_
 refine AK ?_;by_cases h:Cj m=0
 ·have d1:decide (Cj m≠0)=false:=Aee (fun hn=>hn h);obtain⟨hh,_⟩:=DU.1 h;have hn2:=hh.n2;have e:HP m=paK m m.nodes.length:=by
   unfold HP paK;rw[AeS (fun hn=>hn h),List.take_length]
  rw[e]
  repeat'(first|refine sC ?_|refine Aj rfl (by exact tt0) ?_|(refine gC ?_;first|refine Aa (hck) (gk rfl) rfl rfl rfl (by rfl) rfl (by rfl) rfl ?_)|(refine gD ?_;first|refine Ag rfl ?_|refine At rfl (by assumption) ?_)|fail)
  refine VC.le (le_nil (t:=3) (nm:=103) (T:=3) (sz:=1) rfl rfl) ?_;refine AA (ι:=Nat) (fun k=>AS [(3,.c (.row 103 (paK m k).length)),(10,AD (mns m.nodes)),(11,AI m.nodes.length),(12,AI k)] [(103,.row 3 1 (rowOf FQ.enc (paK m k)))]) (fun k=>k<=m.nodes.length) (fun k=>m.nodes.length-k) 0 (AeV _) ?_ ?_
  ·refine lg ?_ ?_ rfl (by rfl)
   all_goals repeat'(first|exact tt0|refine⟨⟨_,rfl,?_⟩,?_⟩|exact .c .d|exact .c (.row rfl rfl)|exact .Bc rfl Ai|fail)
  ·intro k hk;have hl:=Zo hk;by_cases hc:k<m.nodes.length
   ·have hd:decide ((k:Int)<(m.nodes.length:Int))=true:=Aed (by omega);have hs:=WC hc
    repeat'(first|refine sC ?_|refine Aj rfl (by first|exact tt0|omega) ?_|(refine gI ?_;first|refine Aq (gk rfl) rfl rfl rfl rfl rfl (by omega) rfl ?_)|(refine gA ?_;first|refine Bf (gk rfl) rfl rfl rfl (by exact Al.symm) (by exact .row rfl (by rfl)) rfl rfl rfl (by(try dsimp only);omega) rfl rfl ?_)|(refine gD ?_;first|refine Ah rfl ?_|refine At rfl (by assumption) ?_)|fail)
    refine⟨k+1,by omega,by omega,?_⟩;rw[hs,Aeh];refine Am (fun n=>if n=103 then 21 else n) ?_ ?_ rfl (by(simp only[wfL,wfs,Ae,Ad];rfl))
    all_goals repeat'(first|exact tt0|refine⟨⟨_,rfl,?_⟩,?_⟩|exact .c .d|exact .c (.row rfl rfl)|(refine .Bc ?_ Ai;rw[A4];rfl)|fail)
   ·have hd:decide ((k:Int)<(m.nodes.length:Int))=false:=Aee (by omega);have hkl:k=m.nodes.length:=by omega
    subst hkl
    repeat'(first|refine sB ?_|refine Aj rfl (by exact tt0) ?_|(refine gD ?_;first|refine Ag rfl ?_|refine At rfl (by assumption) ?_)|fail)
    refine An (Bv (l:=[(2,AD (ints (paK m m.nodes.length)))]) (b:=[]) (fun n=>n) [103] hS ?_ ?_ rfl (by rfl)) (RY Ab rfl rfl)
    all_goals repeat'(first|exact tt0|refine⟨⟨_,rfl,?_⟩,?_⟩|exact .c (.Ck (by(simp;done)) rfl rfl (fun _=>rfl))|fail)
 ·have d1:decide (Cj m≠0)=true:=Aed h;have e:HP m=[]:=AeT h;rw[e]
  repeat'(first|refine sB ?_|refine Aj rfl (by exact tt0) ?_|(refine gC ?_;first|refine Aa (hck) (gk rfl) rfl rfl rfl (by rfl) rfl (by rfl) rfl ?_)|(refine gD ?_;first|refine Ah rfl ?_|refine At rfl (by assumption) ?_)|fail)
  refine An (Am (l:=[(2,AD (ints []))]) (b:=[]) (fun n=>n) ?_ ?_ rfl (by rfl)) (RY Ab rfl rfl)
  all_goals repeat'(first|exact tt0|refine⟨⟨_,rfl,?_⟩,?_⟩|exact .c .nil|fail)
def Tb.enc (t:Tb):List D:=[.int .i64 t.node,.int .i64 t.len,tcs t.cells]
abbrev tbs (l:List Tb):D:=IS Tb.enc 3 l
def okN (t:Tb) (i:Nat):Prop:=(OX t 16 i).2=0/\(startM i).2=0
def nwN (t:Tb) (i:Nat):MN:=⟨(OX t 16 i).1,(startM i).1,[],0⟩
theorem NM (turns:Int):∀(ts:List Tb) (j:Nat),(∀i,i<ts.length->okN (ts.getD i default) (j+i))->Zy turns ts j=some ((List.range ts.length).map fun i=>nwN (ts.getD i default) (j+i))
 |[],_,_=>rfl
 |t :: ts,j,h=>by
  have h0:=h 0 (by simp);have ih:=NM turns ts (j+1) fun i hi=>by
   have:=h (i+1) (by simp;omega)
   rwa [show j+(i+1)=j+1+i by omega] at this
  unfold Zy;rw[AeS (fun hn=>hn.elim (fun a=>a h0.1) (fun a=>a h0.2)),ih];simp only[List.length_cons,List.range_succ_eq_map,List.map_cons,List.map_map];refine congrArg some (congrArg (List.cons _) (List.map_congr_left fun i _=>?_));show nwN (ts.getD i default) (j+1+i)=nwN ((t :: ts).getD (i+1) default) (j+(i+1));rw[show j+(i+1)=j+1+i by omega];rfl
theorem J5 (turns:Int):∀(ts:List Tb) (j k:Nat),k<ts.length->¬okN (ts.getD k default) (j+k)->Zy turns ts j=none
 |[],_,k,hk,_=>by cases hk
 |t :: ts,j,0,_,h=>by
  unfold Zy;rw[AeT];by_cases h1:(OX t 16 j).2=0
  ·exact .inr fun h2=>h ⟨h1,h2⟩
  ·exact .inl h1
 |t :: ts,j,k+1,hk,h=>by
  have ih:=J5 turns ts (j+1) k (by simpa using hk) (by rwa [show j+1+k=j+(k+1) by omega]);unfold Zy
  split
  ·rfl
  ·rw[ih]
def nwK (ts:List Tb) (k:Nat):List MN:=(List.range k).map fun i=>nwN (ts.getD i default) i
theorem WG (ts:List Tb) (k:Nat):nwK ts (k+1)=nwK ts k++[nwN (ts.getD k default) k]:=by
 unfold nwK;rw[List.range_succ,Ae2];rfl
theorem JS {σ:St} {f:Nat->Nat} {L:List Nat}:∀{xs:List (List C)},(∀x∈xs,x.all C.isD=true)->A3 (A3 (CW σ f L)) xs xs
 |[],_=>.nil
 |x :: xs,hd=>.cons (CWs.refl (hd x (by simp))) (JS fun y hy=>hd y (by simp[hy]))
theorem Zu (ts:List Tb) (k:Nat):(nwK ts k).length=k:=by simp[nwK]
set_option maxHeartbeats 2000000 in
theorem Ug (ts:List Tb) (turns:Int):FnS Tryz.prog 13 [AD (tbs ts),AI turns] [] (.tup [meA (Gk ts turns).1,AI (Gk ts turns).2]) []:=by
 refine fb Tryz.func13 (by kernel_rfl) rfl Tryz.ntmps13 Tryz.results13 rfl rfl rfl rfl fun E hS=>?_
 refine AK ?_;refine BP (t:=0) rfl fun hb=>?_
 repeat'(first|refine sC ?_|refine Aj rfl (by exact tt0) ?_|fail)
 refine VC.le (Mm (bx:=6) (nm:=103) (T:=45) (sz:=22) (j:=0) rfl rfl rfl) ?_;refine AA (ι:=Nat) (fun k=>AS [(4,.c (.ptr 4 0)),(5,AI 0),(6,.c (.ptr 6 0)),(15,AD (tbs ts)),(16,AI ts.length),(17,AI k)] [(4,.box noM.cs),(6,.box [.row 103 (nwK ts k).length,.d (.int .i64 0),.d (.int .i64 turns),.d .Dh]),(103,.row 45 22 (rowOf MN.enc (nwK ts k)))])
  (fun k=>k<=ts.length/\k<=32/\∀i,i<k->okN (ts.getD i default) i) (fun k=>ts.length-k) 0 ⟨AeV _,AeV _,fun i hi=>absurd hi (AeQ _)⟩ ?_ ?_
 ·refine lg ?_ ?_ rfl (by rfl)
  all_goals repeat'(first|exact tt0|refine⟨⟨_,rfl,?_⟩,?_⟩|exact .c .d|exact .c (.ptr rfl)|exact .Bc rfl Ai|refine .box ?_|exact .nil|refine .cons ?_ ?_|exact .d|exact .row rfl rfl|fail)
 ·rintro k ⟨hk,hk32,hall⟩;have hl:=Zu ts k;by_cases hc:k<ts.length
  ·have hd:decide ((k:Int)<(ts.length:Int))=true:=Aed (by omega);have hns:=WK (ts.getD k default) 16 k;have hss:=R.Gx (k:Int);by_cases h1:(OX (ts.getD k default) 16 k).2=0
   ·have d1:decide ((OX (ts.getD k default) 16 k).2≠0)=false:=Aee (fun hn=>hn h1);by_cases h2:(startM k).2=0
    ·have d2:decide ((startM k).2≠0)=false:=Aee (fun hn=>hn h2);have h31:k<32:=by
      unfold startM at h2
      split at h2
      ·cases h2
      ·rename_i hn;unfold P.D7 P.inR at hn;simp only[Aeg,Aeo,Bool.and_eq_false_iff,not_or] at hn;omega
     repeat'(first|refine sC ?_|refine Aj rfl (by first|exact tt0|omega) ?_|(refine gC ?_;first|refine Aa (hns) (gk rfl) rfl rfl rfl (by rfl) rfl (by rfl) rfl ?_|refine Aa (hss) (gk rfl) rfl rfl rfl (by rfl) rfl (by rfl) rfl ?_)|(refine gI ?_;first|refine Aq (gk rfl) rfl rfl rfl rfl rfl (by omega) rfl ?_)|(refine gA ?_;first|refine Bf (gk rfl) rfl rfl rfl (by exact Al.symm) (by exact .row rfl (by rfl)) rfl rfl rfl (by(try dsimp only);omega) rfl rfl ?_)|refine Az rfl (by assumption) ?_|(refine gD ?_;first|refine Ah rfl ?_|refine Ag rfl ?_|refine At rfl (by assumption) ?_)|fail)
     refine⟨k+1,⟨by omega,by omega,fun i hi=>?_⟩,by omega,?_⟩
     ·by_cases h:i<k
      ·exact hall i h
      ·have:i=k:=by omega
       subst this;exact⟨h1,h2⟩
     ·rw[WG,Aeh];refine Am (fun n=>if n=103 then 46 else n) ?_ ?_ rfl (by(simp only[wfL,wfs,Ae,Ad];rfl))
      all_goals repeat'(first|exact tt0|refine⟨⟨_,rfl,?_⟩,?_⟩|exact .c .d|exact .c (.ptr rfl)|exact .Bh rfl rfl|refine .box ?_|exact .nil|refine .cons ?_ ?_|exact .d|exact .row rfl rfl|fail)
      rw[A4];exact .row (A3.append (JS Ai) (.cons (.cons .d (.cons .d (.cons .d (.cons .d (.cons .d (.cons .d (.cons .d (.cons .d (.cons .d (.cons .d (.cons .d (.cons .d (.cons .d (.cons .d (.cons .d (.cons .d (.cons .d (.cons .d (.cons .d (.cons .d (.cons .nil (.cons .d .nil)))))))))))))))))))))) .nil))
    ·have d2:decide ((startM k).2≠0)=true:=Aed h2;have e:Gk ts turns=(noM,1):=by
      unfold Gk;rw[J5 turns ts 0 k hc (by rw[Nat.zero_add];exact fun h=>h2 h.2)]
     rw[e]
     repeat'(first|refine sC ?_|refine Aj rfl (by exact tt0) ?_|(refine gC ?_;first|refine Aa (hns) (gk rfl) rfl rfl rfl (by rfl) rfl (by rfl) rfl ?_|refine Aa (hss) (gk rfl) rfl rfl rfl (by rfl) rfl (by rfl) rfl ?_)|(refine gI ?_;first|refine Aq (gk rfl) rfl rfl rfl rfl rfl (by omega) rfl ?_)|refine Az rfl (by assumption) ?_|(refine gD ?_;first|refine Ah rfl ?_|refine At rfl (by assumption) ?_)|fail)
     refine An (Am (l:=[(4,.c (.ptr 4 0)),(5,AI 1)]) (b:=[(4,.box noM.cs)]) (fun n=>n) ?_ ?_ rfl (by rfl)) (AL Ab rfl rfl rfl rfl rfl rfl rfl)
     all_goals repeat'(first|exact tt0|refine⟨⟨_,rfl,?_⟩,?_⟩|exact .c .d|exact .c (.ptr rfl)|refine .box ?_|exact .nil|refine .cons ?_ ?_|exact .d|fail)
   ·have d1:decide ((OX (ts.getD k default) 16 k).2≠0)=true:=Aed h1;have e:Gk ts turns=(noM,1):=by
     unfold Gk;rw[J5 turns ts 0 k hc (by rw[Nat.zero_add];exact fun h=>h1 h.1)]
    rw[e]
    repeat'(first|refine sC ?_|refine Aj rfl (by exact tt0) ?_|(refine gC ?_;first|refine Aa (hns) (gk rfl) rfl rfl rfl (by rfl) rfl (by rfl) rfl ?_|refine Aa (hss) (gk rfl) rfl rfl rfl (by rfl) rfl (by rfl) rfl ?_)|(refine gI ?_;first|refine Aq (gk rfl) rfl rfl rfl rfl rfl (by omega) rfl ?_)|refine Az rfl (by assumption) ?_|(refine gD ?_;first|refine Ah rfl ?_|refine At rfl (by assumption) ?_)|fail)
    refine An (Am (l:=[(4,.c (.ptr 4 0)),(5,AI 1)]) (b:=[(4,.box noM.cs)]) (fun n=>n) ?_ ?_ rfl (by rfl)) (AL Ab rfl rfl rfl rfl rfl rfl rfl)
    all_goals repeat'(first|exact tt0|refine⟨⟨_,rfl,?_⟩,?_⟩|exact .c .d|exact .c (.ptr rfl)|refine .box ?_|exact .nil|refine .cons ?_ ?_|exact .d|fail)
  ·have hd:decide ((k:Int)<(ts.length:Int))=false:=Aee (by omega);have hkl:k=ts.length:=by omega
   subst hkl;have e:Gk ts turns=if Cj ⟨nwK ts ts.length,0,turns,[]⟩≠0 then(noM,1) else(⟨nwK ts ts.length,0,turns,[]⟩,0):=by
    unfold Gk;rw[NM turns ts 0 (fun i hi=>by rw[Nat.zero_add];exact hall i hi)];simp only[Nat.zero_add];rfl
   rw[e];have hck:=BE ⟨nwK ts ts.length,0,turns,[]⟩
   repeat'(first|refine sA ?_|refine Aj rfl (by exact tt0) ?_|refine sq 11 rfl ?_|((fail_if_success (show VC _ (.region 11 _ _) _ _));refine Be ?_)|(refine gD ?_;first|refine Ag rfl ?_|refine At rfl (by assumption) ?_)|fail)
   refine VC.le (σ':=AS [(4,.c (.ptr 4 0)),(5,AI 0),(6,.c (.ptr 6 0))] [(4,.box noM.cs),(6,.box (Me.cs ⟨nwK ts ts.length,0,turns,[]⟩))]) ?_ ?_
   ·refine Bv (fun n=>n) [103] hS ?_ ?_ rfl (by rfl)
    all_goals repeat'(first|exact tt0|refine⟨⟨_,rfl,?_⟩,?_⟩|exact .c .d|exact .c (.ptr rfl)|exact .Bh rfl rfl|refine .box ?_|exact .nil|refine .cons ?_ ?_|exact .d|exact .Ck (by(simp;done)) rfl rfl (fun _=>rfl)|fail)
   by_cases h3:Cj ⟨nwK ts ts.length,0,turns,[]⟩=0
   ·have d3:decide (Cj ⟨nwK ts ts.length,0,turns,[]⟩≠0)=false:=Aee (fun hn=>hn h3);rw[AeS (fun hn=>hn h3)]
    repeat'(first|refine sB ?_|refine Aj rfl (by exact tt0) ?_|(refine gC ?_;first|refine Aa (hck) (gk rfl) rfl rfl rfl (by rfl) rfl (by rfl) rfl ?_)|(refine gD ?_;first|refine Ag rfl ?_|refine At rfl (by assumption) ?_)|fail)
    refine An (Am (l:=[(4,.c (.ptr 4 0)),(5,AI 0)]) (b:=[(4,.box (Me.cs ⟨nwK ts ts.length,0,turns,[]⟩))]) (fun n=>n) ?_ ?_ rfl (by rfl)) (AL Ab rfl rfl rfl rfl rfl rfl rfl)
    all_goals repeat'(first|exact tt0|refine⟨⟨_,rfl,?_⟩,?_⟩|exact .c .d|exact .c (.ptr rfl)|exact .Bh rfl rfl|fail)
   ·have d3:decide (Cj ⟨nwK ts ts.length,0,turns,[]⟩≠0)=true:=Aed h3;rw[AeT h3]
    repeat'(first|refine sB ?_|refine Aj rfl (by exact tt0) ?_|(refine gC ?_;first|refine Aa (hck) (gk rfl) rfl rfl rfl (by rfl) rfl (by rfl) rfl ?_)|(refine gD ?_;first|refine Ah rfl ?_|refine At rfl (by assumption) ?_)|fail)
    refine An (Am (l:=[(4,.c (.ptr 4 0)),(5,AI 1)]) (b:=[(4,.box noM.cs)]) (fun n=>n) ?_ ?_ rfl (by rfl)) (AL Ab rfl rfl rfl rfl rfl rfl rfl)
    all_goals repeat'(first|exact tt0|refine⟨⟨_,rfl,?_⟩,?_⟩|exact .c .d|exact .c (.ptr rfl)|refine .box ?_|exact .nil|refine .cons ?_ ?_|exact .d|fail)
end Go.Proofs.M
end
