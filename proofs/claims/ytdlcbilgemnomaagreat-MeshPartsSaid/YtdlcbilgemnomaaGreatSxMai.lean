/-
  What functions of the program hand back, and plain laws on that. No condition.
-/
import Derived.Test.YtdlcbilgemnomaaGreatSxMah
import Derived.Test.YtdlcbilgemnomaaGreatSxLibC
import Derived.Test.YtdlcbilgemnomaaGreatSxMac
import Derived.Test.YtdlcbilgemnomaaGreatSxMad
import Derived.Test.YtdlcbilgemnomaaGreatSxMaa
import Derived.Test.YtdlcbilgemnomaaGreatSxMag
set_option linter.unusedSimpArgs false
set_option linter.unusedVariables false
section
namespace Go.Proofs.M
open Go Go.Sx Go.RowKit Go.Proofs Go.Proofs.T Go.Proofs.Q
set_option maxRecDepth 4000
attribute [local irreducible] VR VC thenQ blockQ retL VX
theorem DH {slot turns:Int} {R:Nat->RI} {n:Nat} {loads:List Ld} {sil:List Si} {arr:List Ar} {r0 r2:RI} {Y:List (List C)}:∀p∈fxL slot turns R n loads sil arr r0 r2,∀m∈p.2.names,(Av (Dz (fxL slot turns R n loads sil arr r0 r2) R Y) m).isSome=true:=by
 intro p hp;simp only[fxL,Aex,Aek,or_false] at hp;rcases hp with rfl|rfl|rfl|rfl<;>intro n hn
 ·simp only[Blk.names,List.flatMap_cons,List.flatMap_nil,C.names,List.nil_append,Aez,Aex,Aek,or_false] at hn;subst hn;rfl
 ·rw[AY] at hn;cases hn
 ·simp only[Blk.names,Aex,Aek,or_false] at hn;subst hn;rfl
 ·simp only[Blk.names,Aex,Aek,or_false] at hn;subst hn;rfl
theorem Aac {slot turns:Int} {R:Nat->RI} {loads:List Ld} {sil:List Si} {arr:List Ar} {r0 r2:RI} {X:List Wk} {i:Nat} (hX:X.length<=64) (hi:i<X.length):AH [.c (.ptr 100 0),.c (.ptr (8000+i) 0)] (Dz (fxL slot turns R X.length loads sil arr r0 r2) R (X.map Wk.cs))=true:=by
 simp only[AH,Aen,Aeu];refine⟨fun x hx=>?_,Lm FM (by rw[Aet];omega) DH (F3 X)⟩;simp only[Aex,Aek,or_false] at hx;rcases hx with rfl|rfl<;>refine⟨rfl,fun n hn=>?_⟩<;>simp only[AV.names,AV.Ce,C.names,Aex,Aek,or_false] at hn<;>subst hn
 ·rfl
 ·exact Lq FM hX hi
theorem Aad {P:Program} {N:Nat} {E:Env P N} {x y:AV} {m:List (Nat×Blk)}:DK [x,y] m=AS [(0,x),(1,y)] m:=by
 funext k
 cases k with
 |b n=>rfl
 |s t=>
  rcases t with _|_|t
  ·rfl
  ·rfl
  ·show(([x,y]:List AV)[t+2]?).map Sx.Item.v=(Av [(0,x),(1,y)] (t+2)).map Sx.Item.v;have:Av [(0,x),(1,y)] (t+2)=none:=GH fun p hp=>by
    simp only[Aex,Aek,or_false] at hp;rcases hp with rfl|rfl<;>simp
   rw[this];simp
theorem Abk {sil:List Si} {slot:Int} {X:List Wk} {i j:Nat} (h:j∈Bt sil slot X i):j<X.length/\j≠i:=by
 unfold Bt at h;obtain⟨h1,h2⟩:=AeM.1 h;simp only[Aen,Aef] at h2;exact⟨AeL.1 h1,h2.1.1.1⟩
theorem Gn {σ:St} {slot turns:Int} {R:Nat->RI} {n:Nat} {loads:List Ld} {sil:List Si} {arr:List Ar} {r0 r2:RI}
  (h0:σ (.b 100)=some (.k (.box (sbC slot turns R n loads sil arr.length)))) (h1:σ (.b 102)=some (.k (.row 62 3 (rowOf Ar.enc arr)))) (h2:σ (.b 9100)=some (.k (.pin 100 r0))) (h3:σ (.b 9102)=some (.k (.pin 102 r2))):
  HX σ (fun n=>n) [] (fxL slot turns R n loads sil arr r0 r2):=⟨⟨_,h0,.box (CWs.Ef _)⟩,⟨_,h1,.row (VZ.Ef _)⟩,⟨_,h2,.pin rfl⟩,⟨_,h3,.pin rfl⟩,trivial⟩
theorem Zb {FX:List (Nat×Blk)} {R:Nat->RI} {X:List Wk} {i:Nat} (hf:EN FX) (hX:X.length<=64) (hi:i<X.length) (h0:(Av (Dz FX R (X.map Wk.cs)) 100).isSome=true):∀p∈[(0,AV.c (.ptr 100 0)),(1,AV.c (.ptr (8000+i) 0))],p.2.shallow=true/\∀n∈p.2.names,(Av (Dz FX R (X.map Wk.cs)) n).isSome=true:=by
 intro p hp;simp only[Aex,Aek,or_false] at hp;rcases hp with rfl|rfl<;>refine⟨rfl,fun n hn=>?_⟩<;>simp only[AV.names,AV.Ce,C.names,Aex,Aek,or_false] at hn<;>subst hn
 ·exact h0
 ·exact Lq hf hX hi
theorem QC {FX:List (Nat×Blk)} {R:Nat->RI} {X:List Wk} {i j:Nat} (hf:EN FX) (hX:X.length<=64) (hi:i<X.length) (hj:j<X.length) (h0:(Av (Dz FX R (X.map Wk.cs)) 100).isSome=true):∀p∈[(0,AV.c (.ptr 100 0)),(1,AV.c (.ptr (8000+i) 0)),(5,AV.c (.ptr (8000+j) 0))],p.2.shallow=true/\∀n∈p.2.names,(Av (Dz FX R (X.map Wk.cs)) n).isSome=true:=by
 intro p hp;simp only[Aex,Aek,or_false] at hp;rcases hp with rfl|rfl|rfl<;>refine⟨rfl,fun n hn=>?_⟩<;>simp only[AV.names,AV.Ce,C.names,Aex,Aek,or_false] at hn<;>subst hn
 ·exact h0
 ·exact Lq hf hX hi
 ·exact Lq hf hX hj
theorem JT {P:Program} {l:List (Nat×AV)} {slot turns:Int} {R:Nat->RI} {n:Nat} {loads:List Ld} {sil:List Si} {arr:List Ar} {r0 r2:RI} {X:List Wk} {e:Exit} (he:e=.normal\/e=.ret) (hX:X.length<=64):Hm P [] (.tup []) (Dz (fxL slot turns R n loads sil arr r0 r2) R (X.map Wk.cs)) e (lsS l (fxL slot turns R n loads sil arr r0 r2) R X):=by
 refine⟨he,[],.nil,rfl,fun p hp=>?_⟩;rcases QX hp with hp|⟨i,hi,rfl⟩|⟨j,hj,rfl⟩
 ·simp only[fxL,Aex,Aek,or_false] at hp;rcases hp with rfl|rfl|rfl|rfl<;>rfl
 ·exact NS FM (by rw[Aet];omega) hi
 ·exact Ln FM (by rw[Aet];omega) hj
def Abi (w:Wk) (r:Rs):Wk:=⟨w.nd,w.node,w.ac,w.bc,r,w.up⟩
theorem Tq {σ:St} {n:Nat} {x:Option Sx.Item}:σ.upd (.b n) x (.b n)=x:=St.AE _ _ _
theorem QF {X:List Wk} {i:Nat} {A:Wk} (hi:i<X.length):(X.set i A).getD i default=A:=by
 simp[Aec,hi]
theorem HJ {X:List Wk} {i k:Nat} {A:Wk} (h:i≠k):(X.set i A).getD k default=X.getD k default:=by
 simp[Aec,AeA h]
theorem Oi {FX:List (Nat×Blk)} {b:Blk} (hf:EN FX):EN ((15,b) :: FX):=by
 intro p hp;rcases Aex.1 hp with rfl|hp
 ·simp
 ·exact hf p hp
set_option maxHeartbeats 4000000 in
theorem PG {slot turns:Int} {R:Nat->RI} {loads:List Ld} {sil:List Si} {arr:List Ar} {r0 r2:RI} {X:List Wk} {i:Nat} (hX:X.length<=64) (hi:i<X.length):
  FnS Tryz.prog 90 [.c (.ptr 100 0),.c (.ptr (8000+i) 0)] (Dz (fxL slot turns R X.length loads sil arr r0 r2) R (X.map Wk.cs)) (.tup []) (Dz (fxL slot turns R X.length loads sil arr r0 r2) R ((Cf sil slot X i).map Wk.cs)):=by
 have hf:EN (fxL slot turns R X.length loads sil arr r0 r2):=FM;refine FnS.Bu (enters_of Tryz.func90 (by kernel_rfl) rfl) Tryz.func90 rfl Tryz.ntmps90 Tryz.results90 rfl (Aac hX hi) rfl fun E=>?_
 refine AK ?_;rw[Aad (E:=E)];show VC E _ _ (lsS _ (fxL slot turns R X.length loads sil arr r0 r2) R X)
 repeat'(first|refine sR ?_|(refine gL ?_;first|refine F6 (gk rfl) rfl (J7 (l:=[]) hf hX hi) rfl rfl rfl ?_)|refine Aj rfl (by exact tt0) ?_|(refine gN ?_;first|refine Ak (gk rfl) rfl rfl ?_)|refine sq 1 rfl ?_|(refine gD ?_;first|(refine Ay rfl ?_ ?_<;>intro h<;>have hq:=h<;>(try simp only[hqs] at hq)))|fail)
 ·rw[show Cf sil slot X i=X from AeT hq];refine An (σ':=lsS [] (fxL slot turns R X.length loads sil arr r0 r2) R X) ?_ (JT Ab hX);exact FV hf hX trivial (Gn rfl rfl rfl rfl) (fun j hj=>J7 (l:=[]) hf hX hj) (fun j hj=>Lo (l:=[]) hf hX hj) (fun p hp=>by cases hp) DH
 refine VC.le (σ':=lsS [(0,.c (.ptr 100 0)),(1,.c (.ptr (8000+i) 0))] (fxL slot turns R X.length loads sil arr r0 r2) R X) ?_ ?_
 ·exact FV hf hX ⟨⟨_,rfl,.c (.ptr rfl)⟩,⟨_,rfl,.c (.ptr rfl)⟩,trivial⟩ (Gn rfl rfl rfl rfl) (fun j hj=>J7 (l:=[]) hf hX hj) (fun j hj=>Lo (l:=[]) hf hX hj) (Zb hf hX hi rfl) DH
 refine BB (Mk hX hi ?_);have hse:Cf sil slot X i=match Bt sil slot X i with|[j]=>DA sil slot X i j|_=>X:=AeS (fun h=>h hq)
 have hl1:∀{l},(VQ R l).length=l.length:=fun{l}=>by simp[VQ]
 repeat'(first|refine sR ?_|refine Aj rfl (by exact tt0) ?_|(refine gE ?_;first|refine BA (gk rfl) rfl rfl (by exact Al.symm) rfl rfl ?_)|refine sq 3 rfl ?_|(refine gD ?_;first|(refine Ay rfl ?_ ?_<;>intro h<;>have hq:=h<;>(try simp only[hqs] at hq)))|fail)
 ·have h1:Cf sil slot X i=X:=by
   rw[hse]
   split
   ·rename_i j hj;exact absurd (by rw[hl1,hj];rfl) hq
   ·rfl
  rw[h1];refine An (σ':=lsS [] (fxL slot turns R X.length loads sil arr r0 r2) R X) ?_ (JT Ab hX);exact FV hf hX trivial (Gn rfl rfl rfl rfl) (fun j hj=>J7 (l:=[]) (FX:=(15,.row 136 1 (rowOf LB (VQ R (Bt sil slot X i)))) :: (fxL slot turns R X.length loads sil arr r0 r2)) (Oi hf) hX hj) (fun j hj=>Lo (l:=[]) (FX:=(15,.row 136 1 (rowOf LB (VQ R (Bt sil slot X i)))) :: (fxL slot turns R X.length loads sil arr r0 r2)) (Oi hf) hX hj) (fun p hp=>by cases hp) DH
 rw[hl1] at hq;obtain⟨j,hj⟩:=List.length_eq_one_iff.1 (show(Bt sil slot X i).length=1 by omega);have h1:Cf sil slot X i=DA sil slot X i j:=by rw[hse,hj]
 obtain⟨hjl,hji⟩:=Abk (show j∈Bt sil slot X i by rw[hj];simp);rw[h1];clear h1 hse hl1 hq h;rw[hj,show VQ R [j]=[(R j).blk] from rfl]
 repeat'(first|refine sR ?_|refine Aj rfl (by exact tt0) ?_|refine sq 4 rfl ?_|fail)
 refine D3 (m:=0) (gk rfl) rfl rfl rfl rfl rfl rfl (by simp) (by simp[rowOf]) rfl ?_
 repeat'(first|refine sA ?_|refine Aj rfl (by exact tt0) ?_|fail)
 refine VC.le (N2 (s:=5) (nm:=8000+j) (pn:=20000+j) (r:=R j) (off:=0) rfl (Lo (l:=[]) (FX:=(15,.row 136 1 (rowOf LB [(R j).blk])) :: (fxL slot turns R X.length loads sil arr r0 r2)) (Oi hf) hX hjl)) ?_;refine VC.le (σ':=lsS [(0,.c (.ptr 100 0)),(1,.c (.ptr (8000+i) 0)),(5,.c (.ptr (8000+j) 0))] (fxL slot turns R X.length loads sil arr r0 r2) R X) ?_ ?_
 ·exact FV hf hX ⟨⟨_,rfl,.c (.ptr rfl)⟩,⟨_,rfl,.c (.ptr rfl)⟩,⟨_,rfl,.c (.ptr rfl)⟩,trivial⟩ (Gn rfl rfl rfl rfl) (fun k hk=>J7 (l:=[]) (FX:=(15,.row 136 1 (rowOf LB [(R j).blk])) :: (fxL slot turns R X.length loads sil arr r0 r2)) (Oi hf) hX hk) (fun k hk=>Lo (l:=[]) (FX:=(15,.row 136 1 (rowOf LB [(R j).blk])) :: (fxL slot turns R X.length loads sil arr r0 r2)) (Oi hf) hX hk) (QC hf hX hi hjl rfl) DH
 obtain⟨A,hAe⟩:∃A:Wk,A=Abi (X.getD i default) (X0 (Tg (X.getD j default).ac)):=⟨_,rfl⟩;have hX1:(X.set i A).length<=64:=by rw[Aes];exact hX
 repeat'(first|refine sR ?_|(refine gL ?_;first|refine Hf (gk rfl) rfl (J7 (l:=[]) hf hX hjl) rfl rfl rfl ?_)|(refine gS ?_;first|refine LL (gk rfl) rfl rfl (J7 (l:=[]) hf hX hi) rfl rfl rfl ?_)|refine Aj rfl (by exact tt0) ?_|(refine gN ?_;first|refine Ak (gk rfl) rfl rfl ?_)|refine sq 5 rfl ?_|fail)
 refine VC.le (σ':=lsS [(0,.c (.ptr 100 0)),(1,.c (.ptr (8000+i) 0)),(5,.c (.ptr (8000+j) 0))] (fxL slot turns R X.length loads sil arr r0 r2) R (X.set i A)) ?_ ?_
 ·refine FV hf hX1 ⟨⟨_,rfl,.c (.ptr rfl)⟩,⟨_,rfl,.c (.ptr rfl)⟩,⟨_,rfl,.c (.ptr rfl)⟩,trivial⟩ (Gn (Ee (by omega)) (Ee (by omega)) (Ee (by omega)) (Ee (by omega))) (fun k hk=>?_) (fun k hk=>?_) (QC hf hX1 (by rw[Aes];exact hi) (by rw[Aes];exact hjl) rfl) DH
  ·rw[Aes] at hk;by_cases e:i=k
   ·subst e;rw[Tq,QF hi,hAe];rfl
   ·rw[Ee (by omega),HJ e];exact J7 (l:=[]) hf hX hk
  ·rw[Aes] at hk;rw[Ee (by omega)];exact Lo (l:=[]) hf hX hk
 have hxi:lsS [] (fxL slot turns R X.length loads sil arr r0 r2) R (X.set i A) (.b (8000+i))=some (.k (.box A.cs)):=by
  have:=J7 (l:=[]) hf (R:=R) hX1 (j:=i) (by rw[Aes];exact hi)
  rwa [QF hi] at this
 have hxj:lsS [] (fxL slot turns R X.length loads sil arr r0 r2) R (X.set i A) (.b (8000+j))=some (.k (.box (X.getD j default).cs)):=by
  have:=J7 (l:=[]) hf (R:=R) hX1 (j:=j) (by rw[Aes];exact hjl)
  rwa [HJ (Ne.symm hji)] at this
 have hAn:A.node=(X.getD i default).node:=by rw[hAe];rfl
 have hhe:=ID sil A.node (X.getD j default).node slot;have hno:¬(A.node=(X.getD j default).ac.target/\G7 sil A.node (X.getD j default).node slot=true)->DA sil slot X i j=X.set i A:=by
  intro hn;unfold DA;rw[AeS (fun hc=>hn (by rw[hAn];exact⟨hc.1.symm,hc.2⟩)),hAe];rfl
 have hend:Le E (lsS [] (fxL slot turns R X.length loads sil arr r0 r2) R (X.set i A)) (lsS [] (fxL slot turns R X.length loads sil arr r0 r2) R (X.set i A)):=fun _ _ h=>h
 by_cases t1:(X.getD j default).ac.target=A.node
 ·have g1:decide ((X.getD j default).ac.target=A.node)=true:=Aed t1;cases t2:G7 sil A.node (X.getD j default).node slot with
  |true=>
   obtain⟨B,hBe⟩:∃B:Wk,B=Abi (X.getD j default) {(X.getD j default).rs with AQ:=true}:=⟨_,rfl⟩;have h1:DA sil slot X i j=(X.set i A).set j B:=by
    unfold DA;rw[AeT ⟨t1.trans hAn,by rw[<-hAn];exact t2⟩,hAe,hBe];rfl
   have hX2:((X.set i A).set j B).length<=64:=by rw[Aes];exact hX1
   rw[h1]
   repeat'(first|refine sB ?_|(refine gL ?_;first|refine F6 (gk rfl) rfl (hxi) rfl rfl rfl ?_)|(refine gL ?_;first|refine F6 (gk rfl) rfl (hxj) rfl rfl rfl ?_)|(refine gS ?_;first|refine LL (gk rfl) rfl rfl (hxj) rfl rfl rfl ?_)|refine Aj rfl (by exact tt0) ?_|(refine gC ?_;first|refine Aa (hhe) (gk rfl) rfl rfl rfl (by rfl) rfl (by rfl) rfl ?_)|(refine gN ?_;first|refine Ak (gk rfl) rfl rfl ?_)|refine Az rfl (by assumption) ?_|refine Ap (by kernel_rfl) ?_|(refine gD ?_;first|refine Ah rfl ?_|refine At rfl (by assumption) ?_)|fail)
   refine An (σ':=lsS [] (fxL slot turns R X.length loads sil arr r0 r2) R ((X.set i A).set j B)) ?_ (JT BO hX2);refine FV hf hX2 trivial (Gn (Ee (by omega)) (Ee (by omega)) (Ee (by omega)) (Ee (by omega))) (fun k hk=>?_) (fun k hk=>?_) (fun p hp=>by cases hp) DH
   ·rw[Aes] at hk;by_cases e:j=k
    ·subst e;rw[Tq,QF hk,hBe];rfl
    ·rw[Ee (by omega),HJ e];exact J7 (l:=[]) hf hX1 hk
   ·rw[Aes] at hk;rw[Ee (by omega)];exact Lo (l:=[]) hf hX1 hk
  |false=>
   rw[hno (fun hc=>by rw[t2] at hc;exact absurd hc.2 (by decide))]
   repeat'(first|refine sB ?_|(refine gL ?_;first|refine F6 (gk rfl) rfl (hxi) rfl rfl rfl ?_)|(refine gL ?_;first|refine F6 (gk rfl) rfl (hxj) rfl rfl rfl ?_)|refine Aj rfl (by exact tt0) ?_|(refine gC ?_;first|refine Aa (hhe) (gk rfl) rfl rfl rfl (by rfl) rfl (by rfl) rfl ?_)|(refine gN ?_;first|refine Ak (gk rfl) rfl rfl ?_)|refine Az rfl (by assumption) ?_|refine Ap (by kernel_rfl) ?_|(refine gD ?_;first|refine Ag rfl ?_|refine At rfl (by assumption) ?_)|fail)
   refine An (σ':=lsS [] (fxL slot turns R X.length loads sil arr r0 r2) R (X.set i A)) ?_ (JT BO hX1);exact FV hf hX1 trivial (Gn rfl rfl rfl rfl) (fun k hk=>J7 (l:=[]) hf hX1 hk) (fun k hk=>Lo (l:=[]) hf hX1 hk) (fun p hp=>by cases hp) DH
 ·have g1:decide ((X.getD j default).ac.target=A.node)=false:=Aee t1;rw[hno (fun hc=>t1 hc.1.symm)]
  repeat'(first|refine sB ?_|(refine gL ?_;first|refine F6 (gk rfl) rfl (hxi) rfl rfl rfl ?_)|(refine gL ?_;first|refine F6 (gk rfl) rfl (hxj) rfl rfl rfl ?_)|refine Aj rfl (by exact tt0) ?_|(refine gN ?_;first|refine Ak (gk rfl) rfl rfl ?_)|refine Az rfl (by assumption) ?_|refine Ap (by kernel_rfl) ?_|(refine gD ?_;first|refine Ag rfl ?_)|fail)
  refine An (σ':=lsS [] (fxL slot turns R X.length loads sil arr r0 r2) R (X.set i A)) ?_ (JT BO hX1);exact FV hf hX1 trivial (Gn rfl rfl rfl rfl) (fun k hk=>J7 (l:=[]) hf hX1 hk) (fun k hk=>Lo (l:=[]) hf hX1 hk) (fun p hp=>by cases hp) DH
end Go.Proofs.M
end
section
namespace Go.Proofs.M
open Go Go.Sx Go.RowKit Go.Proofs Go.Proofs.T Go.Proofs.Q
set_option maxRecDepth 4000
attribute [local irreducible] VR VC thenQ blockQ retL VX
def fxS (slot turns:Int) (R:Nat->RI) (n:Nat) (loads:List Ld) (sil:List Si) (arr:List Ar) (r0:RI):List (Nat×Blk):=
 [(100,.box (sbC slot turns R n loads sil arr.length)),(102,.row 62 3 (rowOf Ar.enc arr)),(9100,.pin 100 r0)]
structure O2 (l:List (Nat×AV)) (FY:List (Nat×Blk)):Prop where
 free:∀p∈FY,p.1<90\/(200<=p.1/\p.1<8000)
 nb:∀p∈FY,p.2.names=[]
 ns:∀p∈l,p.2.shallow=true/\∀n∈p.2.names,n=100\/n∈FY.map (·.1)
section
variable {slot turns:Int} {R:Nat->RI} {nn:Nat} {loads:List Ld} {sil:List Si} {arr:List Ar} {r0:RI} {l:List (Nat×AV)} {FY:List (Nat×Blk)} {X:List Wk}
theorem UO {p:Nat×Blk} (hp:p∈fxS slot turns R nn loads sil arr r0++FY):p=(100,.box (sbC slot turns R nn loads sil arr.length))\/p=(102,.row 62 3 (rowOf Ar.enc arr))\/p=(9100,.pin 100 r0)\/p∈FY:=by
 rcases List.mem_append.1 hp with hp|hp
 ·simp only[fxS,Aex,Aek,or_false] at hp;rcases hp with rfl|rfl|rfl<;>simp
 ·exact .inr (.inr (.inr hp))
theorem HY (h:O2 l FY):EN (fxS slot turns R nn loads sil arr r0++FY):=by
 intro p hp;rcases UO hp with rfl|rfl|rfl|hp
 ·simp
 ·simp
 ·simp
 ·have:=h.free p hp;omega
theorem E0 (h:O2 l FY) {n:Nat} {b:Blk} (hb:Av (fxS slot turns R nn loads sil arr r0++FY) n=some b):(n=100/\b=.box (sbC slot turns R nn loads sil arr.length))\/(n=102/\b=.row 62 3 (rowOf Ar.enc arr))\/(n=9100/\b=.pin 100 r0)\/(Av FY n=some b/\(n<90\/(200<=n/\n<8000))):=by
 rw[B3] at hb;cases h1:Av (fxS slot turns R nn loads sil arr r0) n with
 |some x=>
  rw[h1] at hb;injection hb with hb;subst hb
  have:=AF h1;simp only[fxS,Aex,Aek,or_false,Prod.mk.injEq] at this;rcases this with⟨rfl,rfl⟩|⟨rfl,rfl⟩|⟨rfl,rfl⟩
  ·exact .inl ⟨rfl,rfl⟩
  ·exact .inr (.inl ⟨rfl,rfl⟩)
  ·exact .inr (.inr (.inl ⟨rfl,rfl⟩))
 |none=>
  rw[h1,Option.none_or] at hb;exact .inr (.inr (.inr ⟨hb,h.free _ (AF hb)⟩))
theorem UP (h:O2 l FY) {n:Nat} {b:Blk} (hb:Av FY n=some b):Av (fxS slot turns R nn loads sil arr r0++FY) n=some b:=by
 have:=h.free _ (AF hb);rw[B3,GH (l:=fxS slot turns R nn loads sil arr r0) (fun p hp=>?_),hb];rfl;simp only[fxS,Aex,Aek,or_false] at hp;rcases hp with rfl|rfl|rfl<;>(show(_:Nat)≠n;simp only at this ⊢;omega)
theorem PZ (h:O2 l FY) (hX:X.length<=64):wfL l (Dz (fxS slot turns R nn loads sil arr r0++FY) R (X.map Wk.cs))=true:=by
 have hX2:(X.map Wk.cs).length<=100:=by rw[Aet];omega
 refine(Mf (HY h) hX2 (fun p hp=>⟨(h.ns p hp).1,fun n hn=>?_⟩) (fun p hp n hn=>?_) (F3 X))
 ·rcases (h.ns p hp).2 n hn with rfl|hm
  ·rfl
  ·obtain⟨q,hq,rfl⟩:=AeO.1 hm;cases hl:Av FY q.1 with
   |some b=>rw[BI (UP h hl)];rfl
   |none=>
    exfalso;have:∀{L:List (Nat×Blk)},q∈L->Av L q.1≠none:=by
     intro L
     induction L with
     |nil=>intro h;cases h
     |cons p L ih=>
      intro hm;unfold Av;cases hb:Nat.beq p.1 q.1 with
      |true=>simp
      |false=>
       rcases Aex.1 hm with rfl|hm
       ·rw[Nat.beq_refl] at hb;cases hb
       ·exact ih hm
    exact this hq hl
 ·rcases UO hp with rfl|rfl|rfl|hp
  ·simp only[Blk.names,List.flatMap_cons,List.flatMap_nil,C.names,List.nil_append,Aez,Aex,Aek,or_false] at hn;subst hn;rfl
  ·rw[AY] at hn;cases hn
  ·simp only[Blk.names,Aex,Aek,or_false] at hn;subst hn;rfl
  ·rw[h.nb p hp] at hn;cases hn
theorem Og (h:O2 l FY) (hX:X.length<=64):∀k it,lsS l (fxS slot turns R nn loads sil arr r0++FY) R X k=some it->∀nm,it.mentions nm=true->lsS l (fxS slot turns R nn loads sil arr r0++FY) R X (.b nm)≠none:=
 Hj (PZ h hX)
def VO (g:FuncId) (slot turns:Int) (R:Nat->RI) (nn:Nat) (loads:List Ld) (sil:List Si) (r0:RI) (l:List (Nat×AV)) (FY:List (Nat×Blk)) (i:Nat) (A B:List Ar×List Wk):Prop:=
 ∀{E:Env Tryz.prog 116} {a:Act} {w:World} {ρ:Nat->RI} {Im:Nat->Prop},AU E (lsS l (fxS slot turns R nn loads sil A.1 r0++FY) R A.2) a w ρ Im->
  Calls Tryz.prog g #[pvo r0.blk 0,pvo (R i).blk 0] w fun e w'=>∃v,e=.returned v/\(∃us:List Value,v=.tuple us.toArray/\us=[])/\∃ρ2 Im2,AU E (lsS l (fxS slot turns R nn loads sil B.1 r0++FY) R B.2) a w' ρ2 Im2
end
end Go.Proofs.M
end
section
namespace Go.Proofs.M
open Go Go.Sx Go.RowKit Go.Proofs Go.Proofs.T Go.Proofs.Q
set_option maxRecDepth 4000
attribute [local irreducible] VR VC thenQ blockQ retL VX
theorem KU (sil:List Si) (slot:Int) (X:List Wk) (i:Nat):(Cf sil slot X i).length=X.length:=by
 unfold Cf
 split
 ·rfl
 ·split
  ·unfold DA;split<;>simp
  ·rfl
section
variable {slot turns:Int} {R:Nat->RI} {loads:List Ld} {sil:List Si} {arr:List Ar} {r0 r2:RI} {l:List (Nat×AV)} {FY:List (Nat×Blk)} {X:List Wk} {i:Nat}
theorem Jw {nn:Nat} {n:Nat} {b:Blk} (hb:Av (fxL slot turns R nn loads sil arr r0 r2) n=some b):(n=100/\b=.box (sbC slot turns R nn loads sil arr.length))\/(n=102/\b=.row 62 3 (rowOf Ar.enc arr))\/(n=9100/\b=.pin 100 r0)\/(n=9102/\b=.pin 102 r2):=by
 have:=AF hb;simp only[fxL,Aex,Aek,or_false,Prod.mk.injEq] at this;rcases this with⟨rfl,rfl⟩|⟨rfl,rfl⟩|⟨rfl,rfl⟩|⟨rfl,rfl⟩<;>simp
theorem HR {l:List (Nat×AV)} {FX:List (Nat×Blk)} {n:Nat} {b:Blk} (h:Av (Dz FX R (X.map Wk.cs)) n=some b):lsS l FX R X (.b n)=some (.k b):=by
 show(Av _ n).map Sx.Item.k=_;rw[h];rfl
theorem Mi {l:List (Nat×AV)} {FX:List (Nat×Blk)} {n:Nat} {it:Sx.Item} (h:lsS l FX R X (.b n)=some it):∃b,Av (Dz FX R (X.map Wk.cs)) n=some b/\it=.k b:=by
 have h:(Av (Dz FX R (X.map Wk.cs)) n).map Sx.Item.k=some it:=h;rw[AeY] at h;obtain⟨y,h1,h2⟩:=h;exact⟨y,h1,h2.symm⟩
theorem CI {σ:St} {bout:List (Nat×Blk)} {n:Nat} {b:Blk} (h:Av bout n=some b):Sb σ bout (.b n)=some (.k b):=by
 unfold Sb;simp only[h]
theorem GD {σ:St} {bout:List (Nat×Blk)} {n:Nat} (h:Av bout n=none):Sb σ bout (.b n)=σ (.b n):=by
 unfold Sb;simp only[h]
set_option maxHeartbeats 1000000 in
theorem OF (hO:O2 l FY) (hX:X.length<=64) (hi:i<X.length):VO 90 slot turns R X.length loads sil r0 l FY i (arr,X) (arr,Cf sil slot X i):=by
 intro E a w ρ Im hs;have hf:EN (fxS slot turns R X.length loads sil arr r0++FY):=HY hO;have hfl:EN (fxL slot turns R X.length loads sil arr r0 (ρ 102)):=FM;have hXl:(X.map Wk.cs).length<=100:=by rw[Aet];omega
 have hlen:=KU sil slot X i;have hYl:((Cf sil slot X i).map Wk.cs).length<=100:=by rw[Aet];omega
 have e100:lsS l (fxS slot turns R X.length loads sil arr r0++FY) R X (.b 100)=some (.k (.box (sbC slot turns R X.length loads sil arr.length))):=HR (BI rfl);have e102:lsS l (fxS slot turns R X.length loads sil arr r0++FY) R X (.b 102)=some (.k (.row 62 3 (rowOf Ar.enc arr))):=HR (BI rfl);have e9100:lsS l (fxS slot turns R X.length loads sil arr r0++FY) R X (.b 9100)=some (.k (.pin 100 r0)):=HR (BI rfl);have efam:∀j,j<X.length->lsS l (fxS slot turns R X.length loads sil arr r0++FY) R X (.b (8000+j))=some (.k (.box (X.getD j default).cs)):=fun j hj=>J7 hf hX hj
 have epin:∀j,j<X.length->lsS l (fxS slot turns R X.length loads sil arr r0++FY) R X (.b (20000+j))=some (.k (.pin (8000+j) (R j))):=fun j hj=>Lo hf hX hj
 have e9102:lsS l (fxS slot turns R X.length loads sil arr r0++FY) R X (.b 9102)=none:=by
  cases h:Av (Dz (fxS slot turns R X.length loads sil arr r0++FY) R (X.map Wk.cs)) 9102 with
  |none=>show(Av _ 9102).map Sx.Item.k=_;rw[h];rfl
  |some b=>
   exfalso;rcases BD h with h1|⟨j,hj,e,_⟩|⟨j,hj,e,_⟩
   ·rcases E0 hO h1 with⟨e,_⟩|⟨e,_⟩|⟨e,_⟩|⟨_,e⟩<;>omega
   ·omega
   ·omega
 have hs1:=hs.Ab7 (nm:=102) (pn:=9102) (by rw[e102];simp) e9102;have hr0:ρ 100=r0:=hs.bk 9100 _ e9100;have hRi:ρ (8000+i)=R i:=hs.bk (20000+i) _ (epin i hi);have hold:∀n it,n≠9102->lsS l (fxS slot turns R X.length loads sil arr r0++FY) R X (.b n)=some it->((lsS l (fxS slot turns R X.length loads sil arr r0++FY) R X).upd (.b 9102) (some (.k (.pin 102 (ρ 102))))) (.b n)=some it:=fun n it hn h=>by
  rw[Ee (Ne.symm hn)];exact h
 have hc:=hs1.AbS (PG (slot:=slot) (turns:=turns) (R:=R) (loads:=loads) (sil:=sil) (arr:=arr) (r0:=r0) (r2:=ρ 102) hX hi) (vs:=[pvo r0.blk 0,pvo (R i).blk 0])
  (fun n b hb=>by
    rcases BD hb with h1|⟨j,hj,rfl,rfl⟩|⟨j,hj,rfl,rfl⟩
    ·rcases Jw h1 with⟨rfl,rfl⟩|⟨rfl,rfl⟩|⟨rfl,rfl⟩|⟨rfl,rfl⟩
     ·exact hold _ _ (by omega) e100
     ·exact hold _ _ (by omega) e102
     ·exact hold _ _ (by omega) e9100
     ·exact Tq
    ·rw[Aet] at hj;rw[HC hj];exact hold _ _ (by omega) (efam j hj)
    ·rw[Aet] at hj;exact hold _ _ (by omega) (epin j hj))
  (.cons (by show pvo r0.blk 0=pvo (ρ 100).blk 0;rw[hr0]) (.cons (by show pvo (R i).blk 0=pvo (ρ (8000+i)).blk 0;rw[hRi]) .nil))
  (fun _=>false) (fun n h=>by cases h) (fun n h=>by cases h)
  (fun n b hb hl _=>by
    rcases BD hb with h1|⟨j,hj,rfl,rfl⟩|⟨j,hj,rfl,rfl⟩
    ·rcases Jw h1 with⟨rfl,rfl⟩|⟨rfl,rfl⟩|⟨rfl,rfl⟩|⟨rfl,rfl⟩
     ·exact⟨9100,r0,BI rfl,BI rfl⟩
     ·exact⟨9102,ρ 102,BI rfl,BI rfl⟩
     ·cases hl
     ·cases hl
    ·rw[Aet] at hj;exact⟨20000+j,R j,GF hfl hXl (by rw[Aet];exact hj),GF hfl hYl (by rw[Aet,hlen];exact hj)⟩
    ·cases hl)
  (fun n b hb=>by
    rcases BD hb with h1|⟨j,hj,rfl,rfl⟩|⟨j,hj,rfl,rfl⟩
    ·exact⟨_,BI h1⟩
    ·rw[Aet] at hj;exact⟨_,FH hfl hYl (by rw[Aet,hlen];exact hj)⟩
    ·rw[Aet] at hj;exact⟨_,GF hfl hYl (by rw[Aet,hlen];exact hj)⟩)
  (fun n b hb=>by
    rcases BD hb with h1|⟨j,hj,rfl,rfl⟩|⟨j,hj,rfl,rfl⟩
    ·refine⟨b,BI h1,fun h=>h,fun m hm=>?_⟩;have hm:=Blk.A2 hm;rcases Jw h1 with⟨rfl,rfl⟩|⟨rfl,rfl⟩|⟨rfl,rfl⟩|⟨rfl,rfl⟩
     ·simp only[Blk.names,List.flatMap_cons,List.flatMap_nil,C.names,List.nil_append,Aez,Aex,Aek,or_false] at hm;subst hm;exact⟨_,BI rfl,rfl⟩
     ·rw[AY] at hm;cases hm
     ·simp only[Blk.names,Aex,Aek,or_false] at hm;subst hm;exact⟨_,BI rfl,rfl⟩
     ·simp only[Blk.names,Aex,Aek,or_false] at hm;subst hm;exact⟨_,BI rfl,rfl⟩
    ·rw[Aet,hlen] at hj;refine⟨_,FH hfl hXl (by rw[Aet];exact hj),fun _=>rfl,fun m hm=>?_⟩;have hm:=Blk.A2 hm;rw[HC (by rw[hlen];exact hj)] at hm;exfalso;obtain⟨c,hc1,hc2⟩:=List.mem_flatMap.1 hm;rw[HD _ c hc1] at hc2;cases hc2
    ·rw[Aet,hlen] at hj;refine⟨_,GF hfl hXl (by rw[Aet];exact hj),fun h=>h,fun m hm=>?_⟩;have hm:m=8000+j:=by simpa [Blk.names] using Blk.A2 hm
     subst hm;exact⟨_,FH hfl hXl (by rw[Aet];exact hj),rfl⟩)
  (τ:=Sb ((lsS l (fxS slot turns R X.length loads sil arr r0++FY) R X).upd (.b 9102) (some (.k (.pin 102 (ρ 102))))) (Dz (fxL slot turns R X.length loads sil arr r0 (ρ 102)) R ((Cf sil slot X i).map Wk.cs))) (fun _=>rfl) (fun _=>rfl)
 refine hc.mono ?_;rintro e w' ⟨v,he,ht,ρ2,Im2,h2⟩;refine⟨v,he,ht,ρ2,Im2,h2.sub (fun k it hk=>?_) (Og hO (by rw[hlen];exact hX))⟩;cases k with
 |s t=>exact hk
 |b n=>
  obtain⟨b,hb,rfl⟩:=Mi hk;rcases BD hb with h1|⟨j,hj,rfl,rfl⟩|⟨j,hj,rfl,rfl⟩
  ·rcases E0 hO h1 with⟨rfl,rfl⟩|⟨rfl,rfl⟩|⟨rfl,rfl⟩|⟨h3,h4⟩
   ·exact CI (BI rfl)
   ·exact CI (BI rfl)
   ·exact CI (BI rfl)
   ·rw[GD,Ee (by omega)]
    ·exact HR (BI (UP hO h3))
    ·cases h5:Av (Dz (fxL slot turns R X.length loads sil arr r0 (ρ 102)) R ((Cf sil slot X i).map Wk.cs)) n with
     |none=>rfl
     |some b2=>
      exfalso;rcases BD h5 with h6|⟨j,hj,rfl,rfl⟩|⟨j,hj,rfl,rfl⟩
      ·rcases Jw h6 with⟨rfl,_⟩|⟨rfl,_⟩|⟨rfl,_⟩|⟨rfl,_⟩<;>omega
      ·omega
      ·omega
  ·exact CI (FH hfl hYl hj)
  ·exact CI (GF hfl hYl hj)
end
end Go.Proofs.M
end
section
namespace Go.Proofs.M
open Go Go.Sx Go.RowKit Go.Proofs Go.Proofs.T Go.Proofs.Q
set_option maxRecDepth 4000
attribute [local irreducible] VR VC thenQ blockQ retL VX
abbrev PhG (f:FuncId) (slot turns:Int) (nv:D) (loads:List Ld) (sil:List Si) (arr:List Ar) (w:Wk) (arr':List Ar) (v:Wk):Prop:=
 FnW Tryz.prog f [.c (.ptr 100 0),.c (.ptr 101 0)] [(100,.box [.d (.int .i64 slot),.d (.int .i64 turns),.d nv,.d (lds loads),.d (sis sil),.row 102 arr.length]),(101,.box w.cs),(102,.row 62 3 (rowOf Ar.enc arr))] [100,101] (.tup []) [(100,.box [.d (.int .i64 slot),.d (.int .i64 turns),.d nv,.d (lds loads),.d (sis sil),.row 102 arr'.length]),(101,.box v.cs),(102,.row 62 3 (rowOf Ar.enc arr'))]
section
variable {f:FuncId} {slot turns:Int} {nv:D} {loads:List Ld} {sil:List Si} {arr arr':List Ar} {w v:Wk}
theorem PhS.toG (h:PhS f slot turns nv loads sil arr w v):PhG f slot turns nv loads sil arr w arr v:=by
 intro r;obtain⟨h1,_⟩:=h r;refine⟨h1,fun w0 ρ Im S0 vs hv hm=>?_⟩;obtain⟨_,h2⟩:=h (fun n=>if n=102 then ρ 102 else r n);have hin:∀n b,AS [] (Cd [100,101,102] (fun n=>if n=102 then ρ 102 else r n)++[(100,.box [.d (.int .i64 slot),.d (.int .i64 turns),.d nv,.d (lds loads),.d (sis sil),.row 102 arr.length]),(101,.box w.cs),(102,.row 62 3 (rowOf Ar.enc arr))]) (.b n)=some (.k b)->(n=9102/\b=.pin 102 (ρ 102))\/AS [] (Cd [100,101] r++[(100,.box [.d (.int .i64 slot),.d (.int .i64 turns),.d nv,.d (lds loads),.d (sis sil),.row 102 arr.length]),(101,.box w.cs),(102,.row 62 3 (rowOf Ar.enc arr))]) (.b n)=some (.k b):=by
  intro n b hb;simp only[AS,AeY] at hb;obtain⟨y,hy,e⟩:=hb;injection e with e;subst e
  have hmem:=AF hy;simp only[Cd,List.map_cons,List.map_nil,List.cons_append,List.nil_append,Aex,Aek,or_false,Prod.mk.injEq] at hmem;rcases hmem with⟨rfl,rfl⟩|⟨rfl,rfl⟩|⟨rfl,rfl⟩|⟨rfl,rfl⟩|⟨rfl,rfl⟩|⟨rfl,rfl⟩<;>first|exact .inr rfl|exact .inl ⟨rfl,rfl⟩
 have hout:∀n b,AS [] (Cd [100,101] r++[(100,.box [.d (.int .i64 slot),.d (.int .i64 turns),.d nv,.d (lds loads),.d (sis sil),.row 102 arr.length]),(101,.box v.cs),(102,.row 62 3 (rowOf Ar.enc arr))]) (.b n)=some (.k b)->AS [] (Cd [100,101,102] (fun n=>if n=102 then ρ 102 else r n)++[(100,.box [.d (.int .i64 slot),.d (.int .i64 turns),.d nv,.d (lds loads),.d (sis sil),.row 102 arr.length]),(101,.box v.cs),(102,.row 62 3 (rowOf Ar.enc arr))]) (.b n)=some (.k b):=by
  intro n b hb;simp only[AS,AeY] at hb;obtain⟨y,hy,e⟩:=hb;injection e with e;subst e
  have hmem:=AF hy;simp only[Cd,List.map_cons,List.map_nil,List.cons_append,List.nil_append,Aex,Aek,or_false,Prod.mk.injEq] at hmem;rcases hmem with⟨rfl,rfl⟩|⟨rfl,rfl⟩|⟨rfl,rfl⟩|⟨rfl,rfl⟩|⟨rfl,rfl⟩<;>rfl
 have hl:∀n b,AS [] (Cd [100,101,102] (fun n=>if n=102 then ρ 102 else r n)++[(100,.box [.d (.int .i64 slot),.d (.int .i64 turns),.d nv,.d (lds loads),.d (sis sil),.row 102 arr.length]),(101,.box w.cs),(102,.row 62 3 (rowOf Ar.enc arr))]) (.b n)=some (.k b)->b.live=true->AS [] (Cd [100,101] r++[(100,.box [.d (.int .i64 slot),.d (.int .i64 turns),.d nv,.d (lds loads),.d (sis sil),.row 102 arr.length]),(101,.box w.cs),(102,.row 62 3 (rowOf Ar.enc arr))]) (.b n)=some (.k b):=fun n b hb hlv=>by
  rcases hin n b hb with⟨_,rfl⟩|h
  ·cases hlv
  ·exact h
 have hm2:ET (⟨w0,Im,S0⟩:Env Tryz.prog 0) (AS [] (Cd [100,101,102] (fun n=>if n=102 then ρ 102 else r n)++[(100,.box [.d (.int .i64 slot),.d (.int .i64 turns),.d nv,.d (lds loads),.d (sis sil),.row 102 arr.length]),(101,.box w.cs),(102,.row 62 3 (rowOf Ar.enc arr))])) w0 ρ Im:=by
  refine⟨fun n b hb=>?_,fun n b hb hlv=>hm.own n b (hl n b hb hlv) hlv,fun n1 n2 b1 b2 g1 g2 l1 l2=>hm.inj n1 n2 b1 b2 (hl _ _ g1 l1) (hl _ _ g2 l2) l1 l2,fun c hc=>⟨(hm.im c hc).1,(hm.im c hc).2.1,fun n b hb hlv=>(hm.im c hc).2.2 n b (hl _ _ hb hlv) hlv⟩,hm.A7⟩;rcases hin n b hb with⟨rfl,rfl⟩|h
  ·rfl
  ·exact hm.bk n b h
 refine(h2 w0 ρ Im S0 vs hv hm2).mono ?_;rintro e w' ⟨v0,ρ',Im',he,hm',hr,_⟩;exact⟨v0,ρ',Im',he,⟨fun n b hb=>hm'.bk n b (hout n b hb),fun n b hb=>hm'.own n b (hout n b hb),fun n1 n2 b1 b2 g1 g2=>hm'.inj n1 n2 b1 b2 (hout _ _ g1) (hout _ _ g2),fun c hc=>⟨(hm'.im c hc).1,(hm'.im c hc).2.1,fun n b hb=>(hm'.im c hc).2.2 n b (hout _ _ hb)⟩,hm'.A7⟩,hr,trivial⟩
end
section
variable {slot turns:Int} {R:Nat->RI} {nn:Nat} {loads:List Ld} {sil:List Si} {arr arr':List Ar} {r0:RI} {l:List (Nat×AV)} {FY:List (Nat×Blk)} {X:List Wk} {i:Nat} {w v:Wk}
def O1 (slot turns:Int) (R:Nat->RI) (nn:Nat) (loads:List Ld) (sil:List Si) (arr:List Ar) (r0:RI) (i:Nat) (w:Wk):List (Nat×Blk):=
 [(9100,.pin 100 r0),(20000+i,.pin (8000+i) (R i)),(100,.box (sbC slot turns R nn loads sil arr.length)),(8000+i,.box w.cs),(102,.row 62 3 (rowOf Ar.enc arr))]
theorem QN (hi:i<100):VP (swN i) (Cd [100,101] (fun n=>if n=100 then r0 else R i)++[(100,.box (sbC slot turns R nn loads sil arr.length)),(101,.box w.cs),(102,.row 62 3 (rowOf Ar.enc arr))])=O1 slot turns R nn loads sil arr r0 i w:=by
 have e100:swN i 100=100:=Qz (by omega) (by omega) (by omega) (by omega);have e102:swN i 102=102:=Qz (by omega) (by omega) (by omega) (by omega);have e9100:swN i 9100=9100:=Qz (by omega) (by omega) (by omega) (by omega);have e1:swN i 101=8000+i:=Tx;have e2:swN i 9101=20000+i:=We hi;have c1:w.cs.map (C.ren (swN i))=w.cs:=Cs.GB (HD w);have c2:(rowOf Ar.enc arr).map (fun cs=>cs.map (C.ren (swN i)))=rowOf Ar.enc arr:=Css.GB fun cs hcs c hc=>by
  have h:=AY (enc:=Ar.enc) (l:=arr) (T:=0) (sz:=0);cases hn:c.names with
  |nil=>rfl
  |cons x xs=>
   exfalso;have:x∈(Blk.row 0 0 (rowOf Ar.enc arr)).names:=List.mem_flatMap.2 ⟨cs,hcs,List.mem_flatMap.2 ⟨c,hc,by rw[hn];simp⟩⟩;rw[h] at this;cases this
 show[(swN i 9100,Blk.pin (swN i 100) r0),(swN i 9101,Blk.pin (swN i 101) (R i)),(swN i 100,Blk.box [.d (.int .i64 slot),.d (.int .i64 turns),.d (Dy R nn),.d (lds loads),.d (sis sil),.row (swN i 102) arr.length]),(swN i 101,Blk.box (w.cs.map (C.ren (swN i)))),(swN i 102,Blk.row _ 3 ((rowOf Ar.enc arr).map (fun cs=>cs.map (C.ren (swN i)))))]=_;rw[e100,e102,e9100,e1,e2,c1,c2];rfl
theorem Gt {n:Nat} {b:Blk} (hb:Av (O1 slot turns R nn loads sil arr r0 i w) n=some b):(n=9100/\b=.pin 100 r0)\/(n=20000+i/\b=.pin (8000+i) (R i))\/(n=100/\b=.box (sbC slot turns R nn loads sil arr.length))\/(n=8000+i/\b=.box w.cs)\/(n=102/\b=.row 62 3 (rowOf Ar.enc arr)):=by
 have:=AF hb;simp only[O1,Aex,Aek,or_false,Prod.mk.injEq] at this;exact this
theorem C8 {α:Type} {m n:Nat} {x:α} {L:List (Nat×α)} (h:m≠n):Av ((m,x) :: L) n=Av L n:=by
 have:Nat.beq m n=false:=by
  cases hb:Nat.beq m n with
  |false=>rfl
  |true=>exact absurd (AeZ hb) h
 show(bif Nat.beq m n then some x else Av L n)=Av L n;rw[this];rfl
theorem Gl {α:Type} {n:Nat} {x:α} {L:List (Nat×α)}:Av ((n,x) :: L) n=some x:=by
 unfold Av;rw[Nat.beq_refl];rfl
theorem Fs:Av (O1 slot turns R nn loads sil arr r0 i w) 9100=some (.pin 100 r0):=by
 unfold O1;exact Gl
theorem H8:Av (O1 slot turns R nn loads sil arr r0 i w) (20000+i)=some (.pin (8000+i) (R i)):=by
 unfold O1;refine(C8 ?_).trans ?_
 ·omega
 exact Gl
theorem H9:Av (O1 slot turns R nn loads sil arr r0 i w) 100=some (.box (sbC slot turns R nn loads sil arr.length)):=by
 unfold O1;refine(C8 ?_).trans ?_
 ·omega
 refine(C8 ?_).trans ?_
 ·omega
 exact Gl
theorem JB (hi:i<100):Av (O1 slot turns R nn loads sil arr r0 i w) (8000+i)=some (.box w.cs):=by
 unfold O1;refine(C8 ?_).trans ?_
 ·omega
 refine(C8 ?_).trans ?_
 ·omega
 refine(C8 ?_).trans ?_
 ·omega
 exact Gl
theorem GS:Av (O1 slot turns R nn loads sil arr r0 i w) 102=some (.row 62 3 (rowOf Ar.enc arr)):=by
 unfold O1;refine(C8 ?_).trans ?_
 ·omega
 refine(C8 ?_).trans ?_
 ·omega
 refine(C8 ?_).trans ?_
 ·omega
 refine(C8 ?_).trans ?_
 ·omega
 exact Gl
theorem Qm {n:Nat} (h1:n≠9100) (h2:n≠20000+i) (h3:n≠100) (h4:n≠8000+i) (h5:n≠102):Av (O1 slot turns R nn loads sil arr r0 i w) n=none:=by
 cases h:Av (O1 slot turns R nn loads sil arr r0 i w) n with
 |none=>rfl
 |some b=>rcases Gt h with⟨e,_⟩|⟨e,_⟩|⟨e,_⟩|⟨e,_⟩|⟨e,_⟩<;>contradiction
set_option maxHeartbeats 1000000 in
theorem Hw {g:FuncId} (hO:O2 l FY) (hX:X.length<=64) (hi:i<X.length) (hph:PhG g slot turns (Dy R X.length) loads sil arr (X.getD i default) arr' v):VO g slot turns R X.length loads sil r0 l FY i (arr,X) (arr',X.set i v):=by
 intro E a w ρ Im hs;have hf:EN (fxS slot turns R X.length loads sil arr r0++FY):=HY hO;have hXl:(X.map Wk.cs).length<=100:=by rw[Aet];omega
 have e100:lsS l (fxS slot turns R X.length loads sil arr r0++FY) R X (.b 100)=some (.k (.box (sbC slot turns R X.length loads sil arr.length))):=HR (BI rfl);have e102:lsS l (fxS slot turns R X.length loads sil arr r0++FY) R X (.b 102)=some (.k (.row 62 3 (rowOf Ar.enc arr))):=HR (BI rfl);have e9100:lsS l (fxS slot turns R X.length loads sil arr r0++FY) R X (.b 9100)=some (.k (.pin 100 r0)):=HR (BI rfl);have efam:∀j,j<X.length->lsS l (fxS slot turns R X.length loads sil arr r0++FY) R X (.b (8000+j))=some (.k (.box (X.getD j default).cs)):=fun j hj=>J7 hf hX hj
 have epin:∀j,j<X.length->lsS l (fxS slot turns R X.length loads sil arr r0++FY) R X (.b (20000+j))=some (.k (.pin (8000+j) (R j))):=fun j hj=>Lo hf hX hj
 have hr0:ρ 100=r0:=hs.bk 9100 _ e9100;have hRi:ρ (8000+i)=R i:=hs.bk (20000+i) _ (epin i hi);have hF:=FnS.Ad1 (Y8 (i:=i) (by omega)) (hph (fun n=>if n=100 then r0 else R i)) (args':=[.c (.ptr 100 0),.c (.ptr (8000+i) 0)]) (fun w Im S0 ρ vs h=>by
  cases h with
  |cons h1 h=>
   cases h with
   |cons h2 h=>
    cases h;refine .cons ?_ (.cons ?_ .nil)
    ·have h1:_=pvo (ρ 100).blk 0:=h1;show _=pvo (ρ (swN i 100)).blk 0;rw[h1,Qz (by omega) (by omega) (by omega) (by omega)]
    ·have h2:_=pvo (ρ (8000+i)).blk 0:=h2;show _=pvo (ρ (swN i 101)).blk 0;rw[h2,Tx])
 rw[QN (arr:=arr) (by omega),QN (arr:=arr') (by omega)] at hF;have hc:=hs.AbS hF (vs:=[pvo r0.blk 0,pvo (R i).blk 0])
  (fun n b hb=>by
    rcases Gt hb with⟨rfl,rfl⟩|⟨rfl,rfl⟩|⟨rfl,rfl⟩|⟨rfl,rfl⟩|⟨rfl,rfl⟩
    ·exact e9100
    ·exact epin i hi
    ·exact e100
    ·exact efam i hi
    ·exact e102)
  (.cons (by show pvo r0.blk 0=pvo (ρ 100).blk 0;rw[hr0]) (.cons (by show pvo (R i).blk 0=pvo (ρ (8000+i)).blk 0;rw[hRi]) .nil))
  (fun n=>Nat.beq n 102) (fun n h=>by
   have e:=AeZ h;subst e;exact⟨_,GS⟩)
  (fun n h k it hk hq=>by
    have e:=AeZ h;subst e;cases hm:it.mentions 102 with
    |false=>rfl
    |true=>
     exfalso;cases k with
     |s t=>
      have hk:(Av l t).map Sx.Item.v=some it:=hk;rw[AeY] at hk;obtain⟨y,hy,rfl⟩:=hk;have h1:=hO.ns _ (AF hy);rcases h1.2 102 (AV.A2 h1.1 hm) with h2|h2
      ·cases h2
      ·obtain⟨q,hq1,hq2⟩:=AeO.1 h2;have:=hO.free q hq1;omega
     |b n=>
      obtain⟨b,hb,rfl⟩:=Mi hk;have hno:=hq n rfl;have hmn:=Blk.A2 hm;rcases BD hb with h1|⟨j,hj,rfl,rfl⟩|⟨j,hj,rfl,rfl⟩
      ·rcases E0 hO h1 with⟨rfl,rfl⟩|⟨rfl,rfl⟩|⟨rfl,rfl⟩|⟨h3,h4⟩
       ·rw[H9] at hno;cases hno
       ·rw[GS] at hno;cases hno
       ·rw[Fs] at hno;cases hno
       ·rw[hO.nb _ (AF h3)] at hmn;cases hmn
      ·rw[Aet] at hj;rw[HC hj] at hmn;obtain⟨c,hc1,hc2⟩:=List.mem_flatMap.1 hmn;rw[HD _ c hc1] at hc2;cases hc2
      ·have:102=8000+j:=by simpa [Blk.names] using hmn
       omega)
  (fun n b hb hl hd=>by
    rcases Gt hb with⟨rfl,rfl⟩|⟨rfl,rfl⟩|⟨rfl,rfl⟩|⟨rfl,rfl⟩|⟨rfl,rfl⟩
    ·cases hl
    ·cases hl
    ·exact⟨9100,r0,Fs,Fs⟩
    ·exact⟨20000+i,R i,H8,H8⟩
    ·cases hd)
  (fun n b hb=>by
    rcases Gt hb with⟨rfl,rfl⟩|⟨rfl,rfl⟩|⟨rfl,rfl⟩|⟨rfl,rfl⟩|⟨rfl,rfl⟩
    ·exact⟨_,Fs⟩
    ·exact⟨_,H8⟩
    ·exact⟨_,H9⟩
    ·exact⟨_,(JB (by omega))⟩
    ·exact⟨_,GS⟩)
  (fun n b hb=>by
    rcases Gt hb with⟨rfl,rfl⟩|⟨rfl,rfl⟩|⟨rfl,rfl⟩|⟨rfl,rfl⟩|⟨rfl,rfl⟩
    ·refine⟨_,Fs,fun h=>h,fun m hm=>?_⟩;have hm:=Blk.A2 hm;simp only[Blk.names,Aex,Aek,or_false] at hm;subst hm;exact⟨_,H9,rfl⟩
    ·refine⟨_,H8,fun h=>h,fun m hm=>?_⟩;have hm:=Blk.A2 hm;simp only[Blk.names,Aex,Aek,or_false] at hm;subst hm;exact⟨_,(JB (by omega)),rfl⟩
    ·refine⟨_,H9,fun h=>h,fun m hm=>?_⟩;have hm:=Blk.A2 hm;simp only[Blk.names,List.flatMap_cons,List.flatMap_nil,C.names,List.nil_append,Aez,Aex,Aek,or_false] at hm;subst hm;exact⟨_,GS,rfl⟩
    ·refine⟨_,(JB (by omega)),fun h=>h,fun m hm=>?_⟩;have hm:=Blk.A2 hm;exfalso;obtain⟨c,hc1,hc2⟩:=List.mem_flatMap.1 hm;rw[HD _ c hc1] at hc2;cases hc2
    ·refine⟨_,GS,fun h=>h,fun m hm=>?_⟩;have hm:=Blk.A2 hm;rw[AY] at hm;cases hm)
  (τ:=Sb (lsS l (fxS slot turns R X.length loads sil arr r0++FY) R X) (O1 slot turns R X.length loads sil arr' r0 i v)) (fun _=>rfl) (fun _=>rfl)
 refine hc.mono ?_;rintro e w' ⟨v0,he,ht,ρ2,Im2,h2⟩;refine⟨v0,he,ht,ρ2,Im2,h2.sub (fun k it hk=>?_) (Og hO (by rw[Aes];exact hX))⟩;cases k with
 |s t=>exact hk
 |b n=>
  obtain⟨b,hb,rfl⟩:=Mi hk;rcases BD hb with h1|⟨j,hj,rfl,rfl⟩|⟨j,hj,rfl,rfl⟩
  ·rcases E0 hO h1 with⟨rfl,rfl⟩|⟨rfl,rfl⟩|⟨rfl,rfl⟩|⟨h3,h4⟩
   ·exact CI H9
   ·exact CI GS
   ·exact CI Fs
   ·rw[GD (Qm (by omega) (by omega) (by omega) (by omega) (by omega))];exact HR (BI (UP hO h3))
  ·rw[Aet,Aes] at hj;rw[HC (by rw[Aes];exact hj)];by_cases e:i=j
   ·subst e;rw[QF hj];exact CI (JB (by omega))
   ·rw[HJ e,GD (Qm (by omega) (by omega) (by omega) (by omega) (by omega))];exact efam j hj
  ·rw[Aet,Aes] at hj;by_cases e:i=j
   ·subst e;exact CI H8
   ·rw[GD (Qm (by omega) (by omega) (by omega) (by omega) (by omega))];exact epin j hj
end
end Go.Proofs.M
end
section
namespace Go.Proofs.M
open Go Go.Sx Go.Proofs Go.Proofs.T Go.Proofs.Q
open Go.Proofs.P (Nb nbs Rk rkA rkErr checkNb hearM countM forgetM select')
open Go.Proofs.R (startM advM)
set_option maxRecDepth 4000
attribute [local irreducible] VR VC thenQ blockQ retL
def OV (l:List Pk) (o n:Int) (k:Nat):List Pk:=(l.take k).map (Eg o n)++l.drop k
theorem Wv (l:List Pk) (o n:Int) (k:Nat):(OV l o n k).length=l.length:=by
 unfold OV;rw[Aeh,Aet,Aem,Aep];omega
theorem QP {l:List Pk} {o n:Int} {k:Nat} (hk:k<l.length):(OV l o n k).getD k default=l.getD k default:=by
 unfold OV;rw[Aec,List.getElem?_append_right (by rw[Aet,Aem];omega),Aet,Aem,List.getElem?_drop,Aec]
 congr 2;omega
theorem QO {l:List Pk} {o n:Int} {k:Nat} (hk:k<l.length):(OV l o n k).set k (Eg o n (l.getD k default))=OV l o n (k+1):=by
 have h1:((l.take k).map (Eg o n)).length=k:=by rw[Aet,Aem];omega
 have h2:l.drop k=l.getD k default :: l.drop (k+1):=by
  rw[List.drop_eq_getElem_cons hk,Aec,Ael hk];rfl
 unfold OV;rw[h2,List.set_append_right _ _ (by omega),h1,Nat.sub_self,List.set_cons_zero,Co hk,Ae2,Aey]
 rfl
theorem TR {l:List Pk} {o n:Int} {k:Nat} (hk:k<l.length) (h:(l.getD k default).to≠o):OV l o n (k+1)=OV l o n k:=by
 have e:Eg o n (l.getD k default)=l.getD k default:=AeS h;rw[<-QO hk,e];have:=QP (o:=o) (n:=n) hk;refine List.ext_getElem (by simp) fun i h1 h2=>?_
 rw[List.getElem_set]
 split
 ·rename_i hi;subst hi;rw[<-this,Aec,Ael h2];rfl
 ·rfl
theorem TQ (l:List Pk) (o n:Int):OV l o n 0=l:=by simp[OV]
theorem Ww {l:List Pk} {o n:Int} {k:Nat} (h:l.length<=k):OV l o n k=l.map (Eg o n):=by
 unfold OV;rw[AeK h,List.drop_eq_nil_of_le h,Aez]
set_option maxHeartbeats 8000000 in
theorem Nz (slot turns:Int) (nv:D) (loads:List Ld) (sil:List Si) (arr:List Ar) (w:Wk) (hq:w.nd.st.qu.Af.length<=100000):PhS 94 slot turns nv loads sil arr w (Kp slot arr w).2:=by
 have hf:=P.P0 w.nd.nb slot 256;have hse:=P.Ph (forgetM w.nd.nb slot 256) w.nd.rk 64;have hcl:=GQ w.nd.st.qu.Af (by omega);intro r;simp only[Cd,List.map_cons,List.map_nil,List.cons_append,List.nil_append,Nat.reduceAdd];refine FnS.WE (enters_of Tryz.func94 (by kernel_rfl) rfl) Tryz.func94 rfl Tryz.ntmps94 Tryz.results94 rfl (by first|rfl|(simp only[AZ,wfL,AH,wfs,Ae,Ad];rfl)) rfl rfl rfl (by intro p hp;simp only[Aex,Aek,or_false] at hp;rcases hp with rfl|rfl|rfl|rfl|rfl|rfl<;>rfl) fun E hO=>?_
 refine AK ?_;show VC E _ (retL E (Hm Tryz.prog _ _ [(9100,.pin 100 (r 100)),(9101,.pin 101 (r 101)),(9102,.pin 102 (r 102)),(100,.box [.d (.int .i64 slot),.d (.int .i64 turns),.d nv,.d (lds loads),.d (sis sil),.row 102 arr.length]),(101,.box (Wk.cs ⟨E9 slot w.nd,w.node,w.ac,w.bc,w.rs,w.up⟩)),(102,.row 62 3 (rowOf Ar.enc arr))])) _;unfold E9;generalize forgetM w.nd.nb slot 256=NB at *;generalize select' NB w.nd.rk 64=SE at *;obtain⟨rk2,ch,er⟩:=SE;dsimp only at hse ⊢;by_cases h1:er=0
 ·have d1:decide (er≠0)=false:=Aee (by simpa using h1);rw[AeS (by simpa using h1)];have one:ch=false\/rk2.parent<0\/w.nd.rk.parent<0->(if ch=false\/rk2.parent<0\/w.nd.rk.parent<0 then({w.nd with nb:=NB,rk:=rk2}:MN) else{w.nd with nb:=NB,rk:=rk2,st:={w.nd.st with qu:=⟨w.nd.st.qu.Bk,w.nd.st.qu.Af.map (Eg w.nd.rk.parent rk2.parent)⟩}})=⟨w.nd.st,rk2,NB,w.nd.next⟩:=fun h=>AeT h
  cases ch with
  |false=>
   have d2:(!false)=true:=rfl;rw[one (.inl rfl)]
   repeat'(first|refine sB ?_|refine Aj rfl (by exact tt0) ?_|(refine gC ?_;first|refine Aa (hf) (gk rfl) rfl rfl rfl (by rfl) rfl (by rfl) rfl ?_|refine Aa (hse) (gk rfl) rfl rfl rfl (by rfl) rfl (by rfl) rfl ?_)|(refine gN ?_;first|refine Ak (gk rfl) rfl rfl ?_)|refine Ap (by kernel_rfl) ?_|(refine gD ?_;first|refine Ah rfl ?_|refine Ag rfl ?_|refine At rfl (by assumption) ?_)|fail)
   refine An (Am (l:=[]) (b:=[(9100,.pin 100 (r 100)),(9101,.pin 101 (r 101)),(9102,.pin 102 (r 102)),(100,.box [.d (.int .i64 slot),.d (.int .i64 turns),.d nv,.d (lds loads),.d (sis sil),.row 102 arr.length]),(101,.box (Wk.cs ⟨⟨w.nd.st,rk2,NB,w.nd.next⟩,w.node,w.ac,w.bc,w.rs,w.up⟩)),(102,.row 62 3 (rowOf Ar.enc arr))]) (fun n=>n) ?_ ?_ rfl (by(simp only[wfL,wfs,Ae,Ad];rfl))) (Ds Ab .nil rfl (by repeat'(first|exact tt0|refine⟨rfl,?_⟩)))
   all_goals repeat'(first|exact tt0|refine⟨⟨_,rfl,?_⟩,?_⟩|exact .Bh rfl rfl|exact .pin rfl|exact .Bc rfl Ai|refine .box ?_|exact .nil|refine .cons ?_ ?_|exact .d|exact .row rfl rfl|fail)
  |true=>
   have d2:(!true)=false:=rfl;by_cases h3:rk2.parent<0
   ·have d3:decide (rk2.parent<0)=true:=Aed h3;rw[one (.inr (.inl h3))]
    repeat'(first|refine sB ?_|refine Aj rfl (by exact tt0) ?_|(refine gC ?_;first|refine Aa (hf) (gk rfl) rfl rfl rfl (by rfl) rfl (by rfl) rfl ?_|refine Aa (hse) (gk rfl) rfl rfl rfl (by rfl) rfl (by rfl) rfl ?_)|(refine gN ?_;first|refine Ak (gk rfl) rfl rfl ?_)|refine Az rfl (by assumption) ?_|refine Ap (by kernel_rfl) ?_|(refine gD ?_;first|refine Ah rfl ?_|refine Ag rfl ?_|refine At rfl (by assumption) ?_)|fail)
    refine An (Am (l:=[]) (b:=[(9100,.pin 100 (r 100)),(9101,.pin 101 (r 101)),(9102,.pin 102 (r 102)),(100,.box [.d (.int .i64 slot),.d (.int .i64 turns),.d nv,.d (lds loads),.d (sis sil),.row 102 arr.length]),(101,.box (Wk.cs ⟨⟨w.nd.st,rk2,NB,w.nd.next⟩,w.node,w.ac,w.bc,w.rs,w.up⟩)),(102,.row 62 3 (rowOf Ar.enc arr))]) (fun n=>n) ?_ ?_ rfl (by(simp only[wfL,wfs,Ae,Ad];rfl))) (Ds Ab .nil rfl (by repeat'(first|exact tt0|refine⟨rfl,?_⟩)))
    all_goals repeat'(first|exact tt0|refine⟨⟨_,rfl,?_⟩,?_⟩|exact .Bh rfl rfl|exact .pin rfl|exact .Bc rfl Ai|refine .box ?_|exact .nil|refine .cons ?_ ?_|exact .d|exact .row rfl rfl|fail)
   ·have d3:decide (rk2.parent<0)=false:=Aee h3;by_cases h4:w.nd.rk.parent<0
    ·have d4:decide (w.nd.rk.parent<0)=true:=Aed h4;rw[one (.inr (.inr h4))]
     repeat'(first|refine sB ?_|refine Aj rfl (by exact tt0) ?_|(refine gC ?_;first|refine Aa (hf) (gk rfl) rfl rfl rfl (by rfl) rfl (by rfl) rfl ?_|refine Aa (hse) (gk rfl) rfl rfl rfl (by rfl) rfl (by rfl) rfl ?_)|(refine gN ?_;first|refine Ak (gk rfl) rfl rfl ?_)|refine Az rfl (by assumption) ?_|refine Ap (by kernel_rfl) ?_|(refine gD ?_;first|refine Ah rfl ?_|refine Ag rfl ?_|refine At rfl (by assumption) ?_)|fail)
     refine An (Am (l:=[]) (b:=[(9100,.pin 100 (r 100)),(9101,.pin 101 (r 101)),(9102,.pin 102 (r 102)),(100,.box [.d (.int .i64 slot),.d (.int .i64 turns),.d nv,.d (lds loads),.d (sis sil),.row 102 arr.length]),(101,.box (Wk.cs ⟨⟨w.nd.st,rk2,NB,w.nd.next⟩,w.node,w.ac,w.bc,w.rs,w.up⟩)),(102,.row 62 3 (rowOf Ar.enc arr))]) (fun n=>n) ?_ ?_ rfl (by(simp only[wfL,wfs,Ae,Ad];rfl))) (Ds Ab .nil rfl (by repeat'(first|exact tt0|refine⟨rfl,?_⟩)))
     all_goals repeat'(first|exact tt0|refine⟨⟨_,rfl,?_⟩,?_⟩|exact .Bh rfl rfl|exact .pin rfl|exact .Bc rfl Ai|refine .box ?_|exact .nil|refine .cons ?_ ?_|exact .d|exact .row rfl rfl|fail)
    ·have d4:decide (w.nd.rk.parent<0)=false:=Aee h4;have two:(if true=false\/rk2.parent<0\/w.nd.rk.parent<0 then({w.nd with nb:=NB,rk:=rk2}:MN) else{w.nd with nb:=NB,rk:=rk2,st:={w.nd.st with qu:=⟨w.nd.st.qu.Bk,w.nd.st.qu.Af.map (Eg w.nd.rk.parent rk2.parent)⟩}})=
      ⟨⟨w.nd.st.tb,⟨w.nd.st.qu.Bk,w.nd.st.qu.Af.map (Eg w.nd.rk.parent rk2.parent)⟩,w.nd.st.held,w.nd.st.seen,w.nd.st.list,w.nd.st.seq,w.nd.st.Bm,w.nd.st.tries,w.nd.st.back,w.nd.st.wait,w.nd.st.CP⟩,rk2,NB,w.nd.next⟩:=AeS (by rintro(h|h|h);cases h;exact h3 h;exact h4 h)
     rw[two]
     repeat'(first|refine sR ?_|refine Aj rfl (by exact tt0) ?_|(refine gC ?_;first|refine Aa (hf) (gk rfl) rfl rfl rfl (by rfl) rfl (by rfl) rfl ?_|refine Aa (hse) (gk rfl) rfl rfl rfl (by rfl) rfl (by rfl) rfl ?_)|(refine gN ?_;first|refine Ak (gk rfl) rfl rfl ?_)|refine Az rfl (by assumption) ?_|refine Ap (by kernel_rfl) ?_|refine sq 6 rfl ?_|(refine gD ?_;first|refine Ag rfl ?_|refine At rfl (by assumption) ?_)|fail)
     repeat'(first|refine sR ?_|refine Aj rfl (by exact tt0) ?_|(refine gC ?_;first|refine Aa (hcl) (gk rfl) rfl rfl rfl (by(simp only[AZ,wfL,AH,wfs,Ae,Ad];rfl)) rfl (by exact B2) rfl ?_)|(refine gN ?_;first|refine Ak (gk rfl) rfl rfl ?_)|refine sq 7 rfl ?_|fail)
     refine VC.le (σ':=AS [(0,.c (.ptr 100 0)),(1,.c (.ptr 101 0)),(4,AI w.nd.rk.parent),(5,.c (.ptr 5 0))] [(9100,.pin 100 (r 100)),(9101,.pin 101 (r 101)),(9102,.pin 102 (r 102)),(100,.box [.d (.int .i64 slot),.d (.int .i64 turns),.d nv,.d (lds loads),.d (sis sil),.row 102 arr.length]),(101,.box [.d (.int .i64 w.nd.st.tb.node),.d (.int .i64 w.nd.st.tb.len),.d (tcs w.nd.st.tb.cells),.d (.int .i64 w.nd.st.qu.Bk),.row 104 w.nd.st.qu.Af.length,.d (hds w.nd.st.held),.d (sns w.nd.st.seen),.d (.int .i64 w.nd.st.list),.d (.int .i64 w.nd.st.seq),.d (.int .i64 w.nd.st.Bm),.d (.int .i64 w.nd.st.tries),.d (.int .i64 w.nd.st.back),.d (.int .i64 w.nd.st.wait),.d (.int .i64 w.nd.st.CP),.d (.int .i64 rk2.node),.d (.int .i64 rk2.epoch),.d (.int .i64 rk2.parent),.d (.int .i64 rk2.heard),.d (.int .i64 rk2.rank),.d (.int .i64 rk2.least),.d (nbs NB),.d (.int .i64 w.nd.next),.d (.int .i64 w.node),.d (.int .i64 w.ac.kind),.d (.int .i64 w.ac.offset),.d (.int .i64 w.ac.B1),.d (.int .i64 w.ac.source),.d (.int .i64 w.ac.target),.d (.int .i64 w.ac.list),.d (.int .i64 w.ac.seq),.d (.int .i64 w.ac.Ca),.d (.int .i64 w.ac.number),.d (.int .i64 w.ac.err),.d (.int .i64 w.ac.slot),.d (.int .i64 w.ac.rank),.d (.int .i64 w.ac.epoch),.d (.str w.ac.data),.d (.bool w.bc),.d (.bool w.rs.AQ),.d (.bool w.rs.heard),.d (.int .i64 w.rs.B1),.d (.int .i64 w.rs.source),.d (.int .i64 w.rs.target),.d (.int .i64 w.rs.list),.d (.int .i64 w.rs.seq),.d (.int .i64 w.rs.Ca),.d (.int .i64 w.rs.number),.d (.int .i64 w.rs.err),.d (.int .i64 w.rs.slot),.d (.int .i64 w.rs.rank),.d (.int .i64 w.rs.epoch),.d (.str w.rs.data),.d (.int .i64 w.rs.error),.d (.bool w.up.some),.d (.bool w.up.new),.d (.int .i64 w.up.B1),.d (.int .i64 w.up.source),.d (.int .i64 w.up.target),.d (.int .i64 w.up.list),.d (.int .i64 w.up.seq),.d (.int .i64 w.up.Ca),.d (.int .i64 w.up.number),.d (.int .i64 w.up.err),.d (.int .i64 w.up.slot),.d (.int .i64 w.up.rank),.d (.int .i64 w.up.epoch),.d (.str w.up.data)]),(102,.row 62 3 (rowOf Ar.enc arr)),(5,.box rk2.cs),(104,.row 120 6 (rowOf Pk.enc w.nd.st.qu.Af))]) ?_ ?_
     ·refine Am (fun n=>if n=104 then 71007 else n) ?_ ?_ rfl (by(simp only[wfL,wfs,Ae,Ad];rfl))
      all_goals repeat'(first|exact tt0|refine⟨⟨_,rfl,?_⟩,?_⟩|exact .c .d|exact .c (.ptr rfl)|exact .Bh rfl rfl|exact .pin rfl|exact .Bc rfl Ai|refine .box ?_|exact .nil|refine .cons ?_ ?_|exact .d|exact .row rfl rfl|fail)
     repeat'(first|refine sR ?_|refine Aj rfl (by exact tt0) ?_|(refine gE ?_;first|refine BA (gk rfl) rfl rfl (by exact Al.symm) rfl rfl ?_)|(refine gN ?_;first|refine Ak (gk rfl) rfl rfl ?_)|(show VC _ (.seq (.region _ _ _) _) _ _;refine BB ?_)|refine BV ?_|fail)
     refine AA (ι:=Nat) (fun k=>AS [(1,.c (.ptr 101 0)),(4,AI w.nd.rk.parent),(5,.c (.ptr 5 0)),(84,AI w.nd.st.qu.Af.length),(85,AI k)] [(9100,.pin 100 (r 100)),(9101,.pin 101 (r 101)),(9102,.pin 102 (r 102)),(100,.box [.d (.int .i64 slot),.d (.int .i64 turns),.d nv,.d (lds loads),.d (sis sil),.row 102 arr.length]),(101,.box [.d (.int .i64 w.nd.st.tb.node),.d (.int .i64 w.nd.st.tb.len),.d (tcs w.nd.st.tb.cells),.d (.int .i64 w.nd.st.qu.Bk),.row 104 w.nd.st.qu.Af.length,.d (hds w.nd.st.held),.d (sns w.nd.st.seen),.d (.int .i64 w.nd.st.list),.d (.int .i64 w.nd.st.seq),.d (.int .i64 w.nd.st.Bm),.d (.int .i64 w.nd.st.tries),.d (.int .i64 w.nd.st.back),.d (.int .i64 w.nd.st.wait),.d (.int .i64 w.nd.st.CP),.d (.int .i64 rk2.node),.d (.int .i64 rk2.epoch),.d (.int .i64 rk2.parent),.d (.int .i64 rk2.heard),.d (.int .i64 rk2.rank),.d (.int .i64 rk2.least),.d (nbs NB),.d (.int .i64 w.nd.next),.d (.int .i64 w.node),.d (.int .i64 w.ac.kind),.d (.int .i64 w.ac.offset),.d (.int .i64 w.ac.B1),.d (.int .i64 w.ac.source),.d (.int .i64 w.ac.target),.d (.int .i64 w.ac.list),.d (.int .i64 w.ac.seq),.d (.int .i64 w.ac.Ca),.d (.int .i64 w.ac.number),.d (.int .i64 w.ac.err),.d (.int .i64 w.ac.slot),.d (.int .i64 w.ac.rank),.d (.int .i64 w.ac.epoch),.d (.str w.ac.data),.d (.bool w.bc),.d (.bool w.rs.AQ),.d (.bool w.rs.heard),.d (.int .i64 w.rs.B1),.d (.int .i64 w.rs.source),.d (.int .i64 w.rs.target),.d (.int .i64 w.rs.list),.d (.int .i64 w.rs.seq),.d (.int .i64 w.rs.Ca),.d (.int .i64 w.rs.number),.d (.int .i64 w.rs.err),.d (.int .i64 w.rs.slot),.d (.int .i64 w.rs.rank),.d (.int .i64 w.rs.epoch),.d (.str w.rs.data),.d (.int .i64 w.rs.error),.d (.bool w.up.some),.d (.bool w.up.new),.d (.int .i64 w.up.B1),.d (.int .i64 w.up.source),.d (.int .i64 w.up.target),.d (.int .i64 w.up.list),.d (.int .i64 w.up.seq),.d (.int .i64 w.up.Ca),.d (.int .i64 w.up.number),.d (.int .i64 w.up.err),.d (.int .i64 w.up.slot),.d (.int .i64 w.up.rank),.d (.int .i64 w.up.epoch),.d (.str w.up.data)]),(102,.row 62 3 (rowOf Ar.enc arr)),(5,.box rk2.cs),(104,.row 120 6 (rowOf Pk.enc (OV w.nd.st.qu.Af w.nd.rk.parent rk2.parent k)))])
      (fun k=>k<=w.nd.st.qu.Af.length) (fun k=>w.nd.st.qu.Af.length-k) 0 (AeV _) ?_ ?_
     ·rw[TQ];refine Am (fun n=>n) ?_ ?_ rfl (by(simp only[wfL,wfs,Ae,Ad];rfl))
      all_goals repeat'(first|exact tt0|refine⟨⟨_,rfl,?_⟩,?_⟩|exact .c .d|exact .c (.ptr rfl)|exact .Bh rfl rfl|exact .pin rfl|exact .Bc rfl Ai|refine .box ?_|exact .nil|refine .cons ?_ ?_|exact .d|exact .row rfl rfl|fail)
     ·intro k hk;have hrl:=Wv w.nd.st.qu.Af w.nd.rk.parent rk2.parent k;by_cases hc:k<w.nd.st.qu.Af.length
      ·have hdd:decide ((k:Int)<(w.nd.st.qu.Af.length:Int))=true:=Aed (by omega);have hg:=QP (o:=w.nd.rk.parent) (n:=rk2.parent) hc;by_cases h5:(w.nd.st.qu.Af.getD k default).to=w.nd.rk.parent
       ·have d5:decide ((w.nd.st.qu.Af.getD k default).to=w.nd.rk.parent)=true:=Aed h5;have hs:=QO (o:=w.nd.rk.parent) (n:=rk2.parent) hc;have er:Eg w.nd.rk.parent rk2.parent (w.nd.st.qu.Af.getD k default)={w.nd.st.qu.Af.getD k default with to:=rk2.parent}:=AeT h5;rw[<-hg] at d5 er
        repeat'(first|refine sC ?_|refine Aj rfl (by first|exact tt0|omega) ?_|(refine gI ?_;first|refine BF (gk rfl) rfl rfl rfl rfl rfl rfl (by omega) (by omega) rfl ?_)|(refine gN ?_;first|refine DX (gk rfl) rfl rfl ?_|refine Ak (gk rfl) rfl rfl ?_)|(refine gL ?_;first|refine Cn (gk rfl) rfl rfl (by omega) rfl rfl rfl ?_)|(refine gS ?_;first|refine By (gk rfl) rfl rfl rfl (by omega) rfl rfl rfl ?_)|(refine gD ?_;first|refine Ah rfl ?_|refine At rfl (by assumption) ?_)|fail)
        refine⟨k+1,by omega,by omega,?_⟩;rw[<-hs,<-hg,er];generalize OV w.nd.st.qu.Af w.nd.rk.parent rk2.parent k=m at *;refine Am (fun n=>n) ?_ ?_ rfl (by simp only[wfL,wfs];rfl)
        all_goals repeat'(first|exact tt0|refine⟨⟨_,rfl,?_⟩,?_⟩|exact .c .d|exact .c (.ptr rfl)|exact .pin rfl|exact .Bc rfl Ai|exact .Bc (Dx rfl) Ai|refine .box ?_|exact .nil|refine .cons ?_ ?_|exact .d|exact .row rfl rfl|fail)
       ·have d5:decide ((w.nd.st.qu.Af.getD k default).to=w.nd.rk.parent)=false:=Aee h5;have hs:=TR (o:=w.nd.rk.parent) (n:=rk2.parent) hc h5;rw[<-hg] at d5
        repeat'(first|refine sC ?_|refine Aj rfl (by first|exact tt0|omega) ?_|(refine gI ?_;first|refine BF (gk rfl) rfl rfl rfl rfl rfl rfl (by omega) (by omega) rfl ?_)|(refine gN ?_;first|refine DX (gk rfl) rfl rfl ?_|refine Ak (gk rfl) rfl rfl ?_)|(refine gL ?_;first|refine Cn (gk rfl) rfl rfl (by omega) rfl rfl rfl ?_)|(refine gD ?_;first|refine Ah rfl ?_|refine Ag rfl ?_|refine At rfl (by assumption) ?_)|fail)
        refine⟨k+1,by omega,by omega,?_⟩;rw[hs];refine Am (fun n=>n) ?_ ?_ rfl (by(simp only[wfL,wfs,Ae,Ad];rfl))
        all_goals repeat'(first|exact tt0|refine⟨⟨_,rfl,?_⟩,?_⟩|exact .c .d|exact .c (.ptr rfl)|exact .Bh rfl rfl|exact .pin rfl|exact .Bc rfl Ai|refine .box ?_|exact .nil|refine .cons ?_ ?_|exact .d|exact .row rfl rfl|fail)
      ·have hdd:decide ((k:Int)<(w.nd.st.qu.Af.length:Int))=false:=Aee (by omega);have e:OV w.nd.st.qu.Af w.nd.rk.parent rk2.parent k=w.nd.st.qu.Af.map (Eg w.nd.rk.parent rk2.parent):=Ww (by omega);rw[e] at hrl ⊢;generalize w.nd.st.qu.Af.map (Eg w.nd.rk.parent rk2.parent)=m at *
       repeat'(first|refine sB ?_|refine Aj rfl (by exact tt0) ?_|(refine gD ?_;first|refine Ag rfl ?_|refine At rfl (by assumption) ?_)|fail)
       refine An (ZD (l:=[]) (b:=[(9100,.pin 100 (r 100)),(9101,.pin 101 (r 101)),(9102,.pin 102 (r 102)),(100,.box [.d (.int .i64 slot),.d (.int .i64 turns),.d nv,.d (lds loads),.d (sis sil),.row 102 arr.length]),(101,.box (Wk.cs ⟨⟨⟨w.nd.st.tb,⟨w.nd.st.qu.Bk,m⟩,w.nd.st.held,w.nd.st.seen,w.nd.st.list,w.nd.st.seq,w.nd.st.Bm,w.nd.st.tries,w.nd.st.back,w.nd.st.wait,w.nd.st.CP⟩,rk2,NB,w.nd.next⟩,w.node,w.ac,w.bc,w.rs,w.up⟩)),(102,.row 62 3 (rowOf Ar.enc arr))]) (fun n=>n) [104] hO (by intro p hp n r e;simp only[Aex,Aek,or_false] at hp;rcases hp with rfl|rfl|rfl|rfl|rfl|rfl<;>first|(cases e;exact⟨rfl,⟨_,rfl,rfl⟩,by simp⟩)|cases e) ?_ ?_ rfl (by(simp only[wfL,wfs,Ae,Ad];rfl))) (Ds BO .nil rfl (by repeat'(first|exact tt0|refine⟨rfl,?_⟩)))
       all_goals repeat'(first|exact tt0|refine⟨⟨_,rfl,?_⟩,?_⟩|exact .pin rfl|exact .Bc rfl Ai|refine .box ?_|exact .nil|refine .cons ?_ ?_|exact .d|exact .row rfl rfl|(refine .Ck (by(simp;done)) rfl ?_ (fun _=>rfl);((try dsimp only);first|omega);done)|fail)
 ·have d1:decide (er≠0)=true:=Aed h1;rw[AeT h1]
  repeat'(first|refine sB ?_|refine Aj rfl (by exact tt0) ?_|(refine gC ?_;first|refine Aa (hf) (gk rfl) rfl rfl rfl (by rfl) rfl (by rfl) rfl ?_|refine Aa (hse) (gk rfl) rfl rfl rfl (by rfl) rfl (by rfl) rfl ?_)|(refine gN ?_;first|refine Ak (gk rfl) rfl rfl ?_)|refine Ap (by kernel_rfl) ?_|(refine gD ?_;first|refine Ah rfl ?_|refine At rfl (by assumption) ?_)|fail)
  refine An (Am (l:=[]) (b:=[(9100,.pin 100 (r 100)),(9101,.pin 101 (r 101)),(9102,.pin 102 (r 102)),(100,.box [.d (.int .i64 slot),.d (.int .i64 turns),.d nv,.d (lds loads),.d (sis sil),.row 102 arr.length]),(101,.box (Wk.cs ⟨⟨w.nd.st,w.nd.rk,NB,w.nd.next⟩,w.node,w.ac,w.bc,w.rs,w.up⟩)),(102,.row 62 3 (rowOf Ar.enc arr))]) (fun n=>n) ?_ ?_ rfl (by(simp only[wfL,wfs,Ae,Ad];rfl))) (Ds Ab .nil rfl (by repeat'(first|exact tt0|refine⟨rfl,?_⟩)))
  all_goals repeat'(first|exact tt0|refine⟨⟨_,rfl,?_⟩,?_⟩|exact .Bh rfl rfl|exact .pin rfl|exact .Bc rfl Ai|refine .box ?_|exact .nil|refine .cons ?_ ?_|exact .d|exact .row rfl rfl|fail)
end Go.Proofs.M
end
section
namespace Go.Proofs
open Go Go.Sx Go.Proofs.T Go.Proofs.Q
set_option maxRecDepth 4000
attribute [local irreducible] VR VC thenQ blockQ retL
theorem TJ (a:Int):FnS Tryz.prog 287 [AI a] [] (AB false) []:=by
 refine fb Tryz.func287 (by kernel_rfl) rfl Tryz.ntmps287 Tryz.results287 rfl rfl rfl rfl fun E hS=>?_
 repeat'(first|refine sB ?_|refine Aj rfl (by exact tt0) ?_|fail)
 all_goals(refine As Ab rfl ?_;simp)
theorem Uo (a b:Int):FnS Tryz.prog 286 [AI a,AI b] [] (AB (decide (a<b))) []:=by
 refine fb Tryz.func286 (by kernel_rfl) rfl Tryz.ntmps286 Tryz.results286 rfl rfl rfl rfl fun E hS=>?_
 repeat'(first|refine sB ?_|refine Aj rfl (by exact tt0) ?_|(refine gC ?_;first|refine Aa (GJ _) (gk rfl) rfl rfl rfl (by rfl) rfl (by exact Aw) rfl ?_)|fail)
 all_goals exact As Ab rfl rfl
theorem Np (l:List Int) (y:Int) (hl:l.length<=1000000):FnS Tryz.prog 238 [AD (ints l),AI y] [] (.tup [AI (bsK id l y),AB (fdK id l y)]) []:=by
 refine fb Tryz.func238 (by kernel_rfl) rfl Tryz.ntmps238 Tryz.results238 rfl rfl rfl rfl fun E hS=>?_
 repeat'(first|refine sC ?_|refine Aj rfl (by exact tt0) ?_|fail)
 refine AA (ι:=Nat×Nat) (fun p=>AS [(0,AD (ints l)),(1,AI y),(6,AI l.length),(7,AI p.1),(8,AI p.2)] [])
  (fun p=>p.1<=p.2/\p.2<=l.length/\bs (fun i=>decide (id (l.getD i default)<y)) p.1 p.2=bsK id l y) (fun p=>p.2-p.1) (0,l.length) ⟨AeV _,AeU _,rfl⟩ ?_ ?_
 ·refine lg ?_ ?_ rfl (by rfl)
  all_goals repeat'(first|exact tt0|refine⟨⟨_,rfl,?_⟩,?_⟩|exact .c .d|fail)
 ·rintro⟨i,j⟩ ⟨h1,h2,h3⟩;dsimp only at h1 h2 h3 ⊢;rcases AeW i j with hij|hij
  ·have d0:decide ((i:Int)<(j:Int))=true:=Aed (by omega)
   repeat'(first|refine sC ?_|refine Aj rfl (by first|exact tt0|omega) ?_|(refine gC ?_;first|refine Aa (Uo _ _) (gk rfl) rfl rfl rfl (by rfl) rfl (by exact Aw) rfl ?_)|(refine gI ?_;first|refine D4 (gk rfl) rfl rfl rfl rfl (by omega) rfl ?_)|(refine gV ?_;first|refine Ba (gk rfl) rfl ⟨_,rfl⟩ rfl (by first|exact wrap_i64 (by omega)|exact wrap_u64 (by omega)) rfl ?_)|(refine gB ?_;first|refine MZ (m:=1) (gk rfl) rfl rfl rfl (by decide) rfl ?_)|(refine gD ?_;first|refine Ah rfl ?_|refine At rfl (by assumption) ?_|(refine Ay rfl ?_ ?_<;>intro h<;>have hq:=h<;>(try simp only[hqs] at hq)))|fail)
   ·have e:(((i:Int)+(j:Int))/2^1).toNat=(i+j)/2:=by omega
    rw[e] at hq;refine⟨((i+j)/2+1,j),⟨by dsimp only;omega,h2,?_⟩,by dsimp only;omega,?_⟩
    ·rw[<-h3]
     conv=>rhs;rw[bs,AeT (by omega)]
     rw[AeT];exact Aed hq
    ·dsimp only;refine lg ?_ ?_ rfl (by rfl)
     all_goals repeat'(first|exact tt0|refine⟨⟨_,rfl,?_⟩,?_⟩|exact .c .d|fail)
   ·have e:(((i:Int)+(j:Int))/2^1).toNat=(i+j)/2:=by omega
    rw[e] at hq;refine⟨(i,(i+j)/2),⟨by dsimp only;omega,by dsimp only;omega,?_⟩,by dsimp only;omega,?_⟩
    ·rw[<-h3]
     conv=>rhs;rw[bs,AeT (by omega)]
     rw[AeS];rw[Aef];exact Int.not_lt.2 hq
    ·dsimp only;refine lg ?_ ?_ rfl (by rfl)
     all_goals repeat'(first|exact tt0|refine⟨⟨_,rfl,?_⟩,?_⟩|exact .c .d|fail)
  ·have d0:decide ((i:Int)<(j:Int))=false:=Aee (by omega);have e0:bsK id l y=i:=by rw[<-h3,bs,AeS (by omega)]
   rcases AeW i l.length with hil|hil
   ·have d1:decide ((i:Int)<(l.length:Int))=true:=Aed (by omega);by_cases he:l.getD i default=y
    ·have d2:decide (l.getD i default=y)=true:=Aed he
     repeat'(first|refine sB ?_|refine Aj rfl (by exact tt0) ?_|(refine gI ?_;first|refine Aq (gk rfl) rfl rfl rfl rfl rfl (by omega) rfl ?_)|refine Az rfl (by assumption) ?_|(refine gD ?_;first|refine Ag rfl ?_|refine At rfl (by assumption) ?_)|fail)
     refine Cx Ab rfl rfl (by rw[e0]) (congrArg D.bool ?_);rw[fdK,e0,Aed (p:=i<l.length) hil,Bool.true_and];exact Aed he
    ·have d2:decide (l.getD i default=y)=false:=Aee he
     repeat'(first|refine sB ?_|refine Aj rfl (by exact tt0) ?_|(refine gC ?_;first|refine Aa (TJ _) (gk rfl) rfl rfl rfl (by rfl) rfl (by exact Aw) rfl ?_)|(refine gI ?_;first|refine Aq (gk rfl) rfl rfl rfl rfl rfl (by omega) rfl ?_)|refine Az rfl (by assumption) ?_|(refine gD ?_;first|refine Ag rfl ?_|refine At rfl (by assumption) ?_)|fail)
     refine Cx Ab rfl rfl (by rw[e0]) (congrArg D.bool ?_);rw[fdK,e0,Aed (p:=i<l.length) hil,Bool.true_and];exact Aee he
   ·have d1:decide ((i:Int)<(l.length:Int))=false:=Aee (by omega)
    repeat'(first|refine sB ?_|refine Aj rfl (by exact tt0) ?_|refine Az rfl (by assumption) ?_|(refine gD ?_;first|refine Ag rfl ?_|refine At rfl (by assumption) ?_)|fail)
    refine Cx Ab rfl rfl (by rw[e0]) (congrArg D.bool ?_);rw[fdK,e0,Aee (p:=i<l.length) (by omega)];rfl
instance Ad2:Overlaps Tryz.prog 288:=
 ⟨51,4,3,1,AM.slice Tryz.XM rfl,fun w=>AM.Bj Tryz.Yx w,fun args w=>run_callFunc_extern Tryz.func288 (by kernel_rfl) (by kernel_rfl) (by kernel_rfl) (by kernel_rfl) args w⟩
abbrev I1 (x:FQ):D:=.rd 1 1 fun _ j=>(FQ.enc x).getD j .Dh
theorem N5 (l:List FQ) (i:Nat) (x:FQ):rowOf FQ.enc (Bp l i x)=List.take i (rowOf FQ.enc l)++(FQ.enc x).map C.d :: List.drop i (rowOf FQ.enc l):=by
 rw[Bp,A4,CH,Eu]
 rfl
theorem WS (l:List FQ) (i:Nat) (x:FQ) (hl:l.length<=100000) (hi:i<=l.length):FnS Tryz.prog 239 [.c (.row 0 l.length),AI i,AD (I1 x)] [(0,.row 3 1 (rowOf FQ.enc l))]
  (.c (.row 1 (l.length+1))) [(1,.row 3 1 (rowOf FQ.enc (Bp l i x)))]:=by
 refine FnS.Bu (enters_of Tryz.func239 (by kernel_rfl) rfl) Tryz.func239 rfl Tryz.ntmps239 Tryz.results239 rfl (by first|rfl|(simp only[AZ,wfL,AH,wfs,Ae,Ad];rfl)) rfl fun E=>?_
 refine AK ?_
 repeat'(first|refine sR ?_|refine Aj rfl (by exact tt0) ?_|(refine gE ?_;first|refine BA (gk rfl) rfl rfl (by exact Al.symm) rfl rfl ?_)|(refine gA ?_;first|refine Bf (gk rfl) rfl rfl rfl (by exact Al.symm) (by exact .rd) rfl rfl rfl (by(try dsimp only);omega) rfl rfl ?_)|(show VR _ _ _ (⟨_,.slice _ _ _ _ _,_,_,_,_⟩ :: _) _ _ _;first|refine Bg (gk rfl) rfl rfl (by exact .row) rfl rfl (by exact .int rfl rfl) (by exact .no) (by omega) (by(simp only[lns];omega)) (by(simp only[lns];omega)) rfl ?_)|refine sq 8 rfl ?_|(refine gD ?_;first|refine Ag rfl ?_|(refine Ay rfl ?_ ?_<;>intro h<;>have hq:=h<;>(try simp only[hqs] at hq)))|fail)
 ·have e:i=l.length:=by omega
  subst e;refine An (Am (l:=[(6,.c (.row 1 (l.length+1)))]) (b:=[(1,.row 3 1 (rowOf FQ.enc (Bp l l.length x)))]) (fun n=>if n=1 then 25 else n) ⟨⟨_,rfl,.c (.row rfl rfl)⟩,trivial⟩
   ⟨⟨_,rfl,.Bc ?_ Ai⟩,trivial⟩ rfl (by simp only[wfL,wfs];rfl)) (Bn Ab rfl rfl)
  rw[Bp,List.take_length,List.drop_length,A4]
  rfl
 ·refine Ed (nm:=0) rfl (EW (by omega)) fun cp spare hcp hmax=>?_
  rw[Al] at hcp
  repeat'(first|refine sR ?_|refine Aj rfl (by first|exact tt0|omega) ?_|(refine gC ?_;first|refine Ft (gk rfl) rfl rfl rfl (by exact .full) (by omega) rfl rfl rfl ?_)|(refine gA ?_;first|refine Db (gk rfl) rfl rfl rfl rfl rfl rfl rfl rfl rfl rfl (by omega) (by(simp only[lns];omega)) (by omega) (by(try dsimp only);omega) rfl rfl ?_)|(show VR _ _ _ (⟨_,.slice _ _ _ _ _,_,_,_,_⟩ :: _) _ _ _;first|refine B8 (gk rfl) rfl rfl (by exact .full) rfl rfl (by first|exact .no|exact .int rfl rfl) (by omega) (by omega) rfl ?_|refine Bg (gk rfl) rfl rfl (by exact .full) rfl rfl (by exact .int rfl rfl) (by exact .no) (by omega) (by omega) (by omega) rfl ?_)|(show VR _ _ _ (⟨_,.call ⟨.builtin .copy,_,_⟩,_,_,_,_⟩ :: _) _ _ _;first|refine F7 (gk rfl) rfl rfl (by exact .sub) rfl (by first|exact .src .rd|exact .tail rfl (by(simp only[lns];omega)) (by omega)) rfl rfl rfl (by(simp only[lns];omega)) (by omega) rfl ?_)|(show VR _ _ _ (⟨_,.call ⟨.builtin .cap,_,_⟩,_,_,_,_⟩ :: _) _ _ _;first|refine Fw (gk rfl) rfl rfl rfl rfl ?_)|refine Ap (by kernel_rfl) ?_|refine sq 10 rfl ?_|(refine gD ?_;first|refine Ah rfl ?_|(refine Ay rfl ?_ ?_<;>intro h<;>have hq:=h<;>(try simp only[hqs] at hq)))|fail)
  ·have hq1:((l.length:Int)+(1:Nat)-i).toNat=l.length+1-i:=by omega
   refine Ed (nm:=40) rfl (by
    intro e;have:=congrArg List.length e;rw[Aeh,Aeq] at this;change _+_=0 at this;omega) fun cp2 spare2 hcp2 hmax2=>?_
   rw[Aeh,Aeq,Aem,Al] at hcp2
   repeat'(first|refine sB ?_|refine Aj rfl (by first|exact tt0|omega) ?_|(show VR _ _ _ (⟨_,.slice _ _ _ _ _,_,_,_,_⟩ :: _) _ _ _;first|refine Bg (gk rfl) rfl rfl (by exact .full) rfl rfl (by exact .int rfl rfl) (by exact .no) (by omega) (by omega) (by omega) rfl ?_)|(show VR _ _ _ (⟨_,.call ⟨.builtin .copy,_,_⟩,_,_,_,_⟩ :: _) _ _ _;first|refine F7 (gk rfl) rfl rfl (by exact .sub) rfl (by first|exact .src .rd|exact .src (.sub rfl (by exact .full) (by(simp only[lns];omega)))) rfl rfl rfl (by(simp only[lns];omega)) (by omega) rfl ?_)|refine Ap (by kernel_rfl) ?_|fail)
   refine An (Am (l:=[(6,.c (.row 1 (l.length+1)))]) (b:=[(1,.row 3 1 (rowOf FQ.enc (Bp l i x)))]) (fun n=>if n=1 then 40 else n) ⟨⟨_,rfl,.c (.row rfl (by omega))⟩,trivial⟩
    ⟨⟨_,rfl,.I4 (l.length+1) ?_⟩,trivial⟩ rfl (by simp only[wfL,wfs];rfl)) (Bn Ab rfl rfl)
   rw[hq1,show min 1 (i+(l.length+1-i)-i)=1 by omega,show min (l.length-i) (i+(l.length+1-i)-(i+1))=l.length-i by omega];exact(Jv (y:=(FQ.enc x).map C.d) (Al (enc:=FQ.enc)) (by omega) rfl).trans (N5 l i x).symm
  ·refine An (Am (l:=[(6,.c (.row 1 (l.length+1)))]) (b:=[(1,.row 3 1 (rowOf FQ.enc (Bp l i x)))]) (fun n=>if n=1 then 0 else n) ⟨⟨_,rfl,.c (.row rfl rfl)⟩,trivial⟩
    ⟨⟨_,rfl,.I4 (l.length+1) ?_⟩,trivial⟩ rfl (by simp only[wfL,wfs];rfl)) (Bn Ab rfl rfl)
   rw[show min 1 (l.length+1-i)=1 by omega,show min (l.length+1-i) (l.length+1-(i+1))=l.length-i by omega];exact(Ju (y:=(FQ.enc x).map C.d) (Al (enc:=FQ.enc)) (by omega)).trans (N5 l i x).symm
theorem WT (l:List Int) (y:Int) (hl:l.length<=100000) (hr:MW id l) (hf:fdK id l y=false):FnS Tryz.prog 176 [.c (.row 0 l.length),AI y] [(0,.row 3 1 (rowOf FQ.enc l))] (.c (.row 1 (l.length+1))) [(1,.row 3 1 (rowOf FQ.enc (MV id l y)))]:=by
 have hs:=Np l y (by omega);rw[hf] at hs;have hb:bsK id l y<=l.length:=(H6 hr y).1;have hu:MV id l y=Bp l (bsK id l y) y:=by
  have:=Pd (k:=id) (x:=y) hr;rw[this,AeS (by show ¬fdK id l y=true;rw[hf];simp)];rfl
 rw[hu];refine FnS.Bu (enters_of Tryz.func176 (by kernel_rfl) rfl) Tryz.func176 rfl Tryz.ntmps176 Tryz.results176 rfl (by first|rfl|(simp only[AZ,wfL,AH,wfs,Ae,Ad];rfl)) rfl fun E=>?_
 refine AK ?_
 repeat'(first|refine sB ?_|refine Aj rfl (by exact tt0) ?_|(refine gC ?_;first|refine AJ [0] (hs) (gk rfl) rfl (by(repeat'(first|exact .nil|refine .cons ?_ ?_|exact .of0 (.c .d)|exact(.of0 (.c (A9 (by simp) rfl rfl (fun _=>rfl))))))<;>fail) (by rfl) rfl (by rfl) rfl (by exact Aw) rfl ?_|refine Cw [18] (WS l (bsK id l y) y hl hb) (gk rfl) rfl rfl Ai rfl (by(repeat'(first|exact .nil|refine .cons ?_ ?_|exact .of0 (.c .d)|exact .of0 (.c (H4 (by decide) rfl rfl (by repeat'(first|exact tt0|refine⟨?_,?_⟩|rfl))))))<;>fail) rfl (by exact KX (fun _=>rfl)) rfl (by(simp only[AZ,wfL,AH,wfs,Ae,Ad];rfl)) rfl (by exact B2) rfl ?_)|(refine gD ?_;first|refine Ag rfl ?_)|fail)
 refine An (Am (l:=[(4,.c (.row 1 (l.length+1)))]) (b:=[(1,.row 3 1 (rowOf FQ.enc (Bp l (bsK id l y) y)))]) (fun n=>if n=1 then 19001 else n) ?_ ?_ rfl (by(simp only[wfL,wfs,Ae,Ad];rfl))) (Bn Ab rfl rfl)
 all_goals repeat'(first|exact tt0|refine⟨⟨_,rfl,?_⟩,?_⟩|exact .c (.row rfl rfl)|exact .Bc rfl Ai|fail)
end Go.Proofs
end
