/-
  What functions of the program hand back, and plain laws on that. No condition.
-/
import Derived.Test.YtdlcbilgemnomaaGreatSxMag
import Derived.Test.YtdlcbilgemnomaaGreatSxMaf
import Derived.Test.YtdlcbilgemnomaaGreatSxLibC
set_option linter.unusedSimpArgs false
set_option linter.unusedVariables false
section
namespace Go.Proofs.M
open Go Go.Sx Go.RowKit Go.Proofs Go.Proofs.T Go.Proofs.Q
theorem Ws {P:Program} {N:Nat} {E:Env P N} {Q:Exit->St->Prop} {e:Exit} {σ:St} (h:retL E Q e σ):∃σ',Q e σ':=by
 obtain⟨σ',_,h2⟩:=h;exact⟨σ',h2⟩
set_option maxRecDepth 4000
attribute [local irreducible] VR VC thenQ blockQ retL VX
theorem Qw {σ:St} {t n:Nat} {x:Option Sx.Item}:σ.B9 [(.s t,x)] (.b n)=σ (.b n):=rfl
theorem F9 {σ:St} {t n:Nat} {x:Option Sx.Item}:σ.upd (.s t) x (.b n)=σ (.b n):=rfl
theorem VZ.Ef {σ:St} {L:List Nat}:∀xs:List (List C),A3 (A3 (CW σ (fun n=>n) L)) xs xs
 |[]=>.nil
 |c :: cs=>.cons (CWs.Ef c) (VZ.Ef cs)
theorem LY {σ:St} {t n:Nat} {x:AV}:σ.set t x (.b n)=σ (.b n):=rfl
theorem Ee {σ:St} {n m:Nat} {x:Option Sx.Item} (h:m≠n):σ.upd (.b m) x (.b n)=σ (.b n):=St.Au _ _ (by intro e;injection e with e;exact h e)
theorem Uj {FX:List (Nat×Blk)} {R:Nat->RI} {X:List (List C)} {n:Nat} (hn:n<8000) (h:Av FX n=none):Av (Dz FX R X) n=none:=by
 cases h1:Av (Dz FX R X) n with
 |none=>rfl
 |some b=>
  rcases BD h1 with h2|⟨i,_,rfl,_⟩|⟨j,_,rfl,_⟩
  ·rw[h] at h2;cases h2
  ·omega
  ·omega
theorem Uk {l:List (Nat×AV)} {FX:List (Nat×Blk)} {R:Nat->RI} {X:List (List C)} {n:Nat} {b:Blk} (h:Av FX n=some b):AS l (Dz FX R X) (.b n)=some (.k b):=by
 show(Av (Dz FX R X) n).map Item.k=_;rw[BI h];rfl
abbrev lsS (l:List (Nat×AV)) (FX:List (Nat×Blk)) (R:Nat->RI) (X:List Wk):St:=AS l (Dz FX R (X.map Wk.cs))
theorem J7 {l:List (Nat×AV)} {FX:List (Nat×Blk)} {R:Nat->RI} {X:List Wk} (hf:EN FX) (hX:X.length<=64) {j:Nat} (hj:j<X.length):lsS l FX R X (.b (8000+j))=some (.k (.box (X.getD j default).cs)):=by
 rw[lsS,NS hf (by rw[Aet];omega) (by rw[Aet];exact hj),HC hj]
theorem Lo {l:List (Nat×AV)} {FX:List (Nat×Blk)} {R:Nat->RI} {X:List Wk} (hf:EN FX) (hX:X.length<=64) {j:Nat} (hj:j<X.length):lsS l FX R X (.b (20000+j))=some (.k (.pin (8000+j) (R j))):=by
 rw[lsS,Ln hf (by rw[Aet];omega) (by rw[Aet];exact hj)]
theorem FV {P:Program} {N:Nat} {E:Env P N} {σ:St} {l:List (Nat×AV)} {FX:List (Nat×Blk)} {R:Nat->RI} {X:List Wk} (hf:EN FX) (hX:X.length<=64) (hl:VS σ (fun n=>n) [] l) (hF:HX σ (fun n=>n) [] FX)
  (hx:∀j,j<X.length->σ (.b (8000+j))=some (.k (.box (X.getD j default).cs))) (hp:∀j,j<X.length->σ (.b (20000+j))=some (.k (.pin (8000+j) (R j))))
  (h1:∀p∈l,p.2.shallow=true/\∀n∈p.2.names,(Av (Dz FX R (X.map Wk.cs)) n).isSome=true) (h2:∀p∈FX,∀n∈p.2.names,(Av (Dz FX R (X.map Wk.cs)) n).isSome=true):Le E σ (lsS l FX R X):=by
 refine ZC hl hF (fun j hj=>?_) (fun j hj=>?_) (Mf hf (by rw[Aet];omega) h1 h2 (F3 X))
 ·rw[Aet] at hj;refine⟨_,hx j hj,?_⟩;rw[HC hj];exact CWs.Ef _
 ·rw[Aet] at hj;exact hp j hj
theorem Lq {FX:List (Nat×Blk)} {R:Nat->RI} {X:List Wk} (hf:EN FX) (hX:X.length<=64) {j:Nat} (hj:j<X.length):(Av (Dz FX R (X.map Wk.cs)) (8000+j)).isSome=true:=by
 rw[FH hf (by rw[Aet];omega) (by rw[Aet];exact hj)];rfl
def VQ (R:Nat->RI) (L:List Nat):List Nat:=L.map fun j=>(R j).blk
set_option maxHeartbeats 2000000 in
theorem Mk {E:Env Tryz.prog 65} {slot turns:Int} {R:Nat->RI} {loads:List Ld} {sil:List Si} {arr:List Ar} {r0 r2:RI} {X:List Wk} {i:Nat} (hX:X.length<=64) (hi:i<X.length) {y:Code} {rs:List ResultVar} {res:AV} {bo:List (Nat×Blk)} {af1 af2:Array Edge} {p0 p1 p2 p3 p4:String} {a0 a1 a4:Array Edge}
  (h:VC E y (retL E (Hm Tryz.prog rs res bo)) (lsS [(0,.c (.ptr 100 0)),(1,.c (.ptr (8000+i) 0)),(4,.c (.row 15 (VQ R (Bt sil slot X i)).length))] ((15,.row 136 1 (rowOf LB (VQ R (Bt sil slot X i)))) :: (fxL slot turns R X.length loads sil arr r0 r2)) R X)):
  VC E (.region 1 #[⟨some 12,.move (.tmp 0),131,p0,a0,none⟩,⟨some 13,.move (.tmp 1),136,p1,a1,none⟩,⟨some 14,.call ⟨.value (.func 129),#[.tmp 12,.tmp 13],#[131,136]⟩,196,p2,af1,none⟩,
   ⟨some 15,.call ⟨.value (.func 128),#[.tmp 14],#[196]⟩,133,p3,af2,none⟩,⟨some 4,.assign (.tmp 15),133,p4,a4,none⟩] false) (thenQ (VC E y (retL E (Hm Tryz.prog rs res bo))) (retL E (Hm Tryz.prog rs res bo))) (lsS [(0,.c (.ptr 100 0)),(1,.c (.ptr (8000+i) 0))] (fxL slot turns R X.length loads sil arr r0 r2) R X):=by
 have hf:EN (fxL slot turns R X.length loads sil arr r0 r2):=FM;refine VC.mk fun a w hs=>?_
 have hno:¬LetsOut (fun e a' w'=>∃σ',Sat E σ' a' w'/\thenQ (VC E y (retL E (Hm Tryz.prog rs res bo))) (retL E (Hm Tryz.prog rs res bo)) e σ'):=by
  rintro⟨a,w,σ',_,h⟩;obtain⟨σ2,h2⟩:=Ws (Ng h);rcases h2.1 with h|h<;>cases h
 refine wpIn_wide (n:=3).1 (wpIn_region_lit ?_);refine HT 2 (by simp only[List.take_succ_cons,List.take_zero];rfl) (by simp only[List.drop_succ_cons,List.drop_zero];rfl) ?_;refine J9 hno ?_ _ _ hs
 repeat'(first|refine sA ?_|refine Aj rfl (by exact tt0) ?_|fail)
 rintro a2 w2 ⟨ρ,Im,hs2⟩;have hB:∀n b,lsS [(0,.c (.ptr 100 0)),(1,.c (.ptr (8000+i) 0))] (fxL slot turns R X.length loads sil arr r0 r2) R X (.b n)=some (.k b)->((lsS [(0,.c (.ptr 100 0)),(1,.c (.ptr (8000+i) 0))] (fxL slot turns R X.length loads sil arr r0 r2) R X).B9 [(.s 12,some (.v (.c (.ptr 100 0))))]).B9 [(.s 13,some (.v (.c (.ptr (8000+i) 0))))] (.b n)=some (.k b):=fun n b h=>by
  rw[Qw,Qw];exact h
 obtain⟨rb,ro,cap,HF⟩:=SB (slot:=slot) (turns:=turns) (R:=R) (loads:=loads) (sil:=sil) (len:=arr.length) (X:=X) hs2 (by omega) (hB 100 _ (Uk rfl)) (fun j hj=>hB _ _ (J7 hf hX hj)) (fun j hj=>hB _ _ (Lo hf hX hj));have hr12:a2.eval (.tmp 12)=pvo (ρ 100).blk 0:=hs2.fr 12 (.c (.ptr 100 0)) rfl;have hr13:a2.eval (.tmp 13)=pvo (ρ (8000+i)).blk 0:=hs2.fr 13 (.c (.ptr (8000+i) 0)) rfl;have hRi:ρ (8000+i)=R i:=hs2.bk (20000+i) _ (hB _ _ (Lo hf hX hi));rw[hRi] at hr13;have hrun:=Ri (P:=Tryz.prog) (w:=w2) (a:=a2) (d:=14) (g:=129) (xs:=[.tmp 12,.tmp 13]) (ats:=#[131,136]) (ty:=196) (pos:=p2) (af:=af1) (gd:=none) (enters_of Tryz.func129 (by kernel_rfl) rfl);simp only[List.map_cons,List.map_nil,hr12,hr13] at hrun;refine Qj hrun (Pg (pvo (ρ 100).blk 0) (pvo (R i).blk 0) rfl rfl w2) ?_;rintro v14 w3 ⟨b1,b2,rfl,hc1,hc2,hb3⟩;have HF3:=HF.grow hb3;have hs3:=(hs2.grow hb3).put (d:=14) (by decide) (x:=GZ (.func (.func 174) #[] #[pvo b1 0,pvo b2 0])) (v:=.func (.func 174) #[] #[pvo b1 0,pvo b2 0]) ⟨rfl,rfl⟩ (fun nm hn=>by cases hn);have hr14:(a2.put (some 14) (.func (.func 174) #[] #[pvo b1 0,pvo b2 0])).eval (.tmp 14)=.func (.func 174) #[] #[pvo b1 0,pvo b2 0]:=(hs3.fr 14 (GZ _) rfl).1;have hrun:=Ri (P:=Tryz.prog) (w:=w3) (a:=a2.put (some 14) (.func (.func 174) #[] #[pvo b1 0,pvo b2 0])) (d:=15) (g:=128) (xs:=[.tmp 14]) (ats:=#[196]) (ty:=133) (pos:=p3) (af:=af2) (gd:=none) (enters_of Tryz.func128 (by kernel_rfl) rfl);simp only[List.map_cons,List.map_nil,hr14] at hrun;have hseq:=Nm (w:=w3) (n:=X.length) (i:=i) (B:=fun j=>(R j).blk) (X:=X) (sil:=sil) (slot:=slot) (b1:=b1) (b2:=b2) (bs:=(ρ 100).blk) (rb:=rb) (ro:=ro) (cap:=cap) rfl hi (by omega) hc1 hc2 HF3.s0 HF3.s2 HF3.s4 HF3.hr HF3.hB HF3.hc HF3.inj;refine Qj hrun (Qc (own:=fun _=>False) (fun h=>h) (fun h=>h) (enters_of Tryz.func174 (by kernel_rfl) rfl) (N:=X.length+1) (by omega) hseq) ?_;rintro v15 w4 ⟨xs,rfl,hrow,hb4⟩;obtain⟨r,hv15,hr,_,hbk⟩:=Nr hrow;have hs4:=hs3.Ad6 hb4 (nm:=15) (by
  show(Av (Dz (fxL slot turns R X.length loads sil arr r0 r2) R (X.map Wk.cs)) 15).map Item.k=none;rw[Uj (by decide) rfl];rfl) r hr (hbk ρ Im 15) (fun m=>by
  have:=AY (enc:=LB) (l:=(Bt sil slot X i).map fun j=>(R j).blk) (T:=136) (sz:=1);cases hm:(Blk.row 136 1 (rowOf LB ((Bt sil slot X i).map fun j=>(R j).blk))).mentions m with
  |false=>rfl
  |true=>have h2:=Blk.A2 hm;rw[this] at h2;cases h2)
 have hs5:=hs4.put (d:=15) (by decide) (x:=.c (.row 15 ((Bt sil slot X i).map fun j=>(R j).blk).length)) (v:=v15) (by
  show v15=if(EP ρ 15 r 15).isNil then _ else _
  rw[show EP ρ 15 r 15=r by simp[EP]];exact hv15) (fun nm hn=>by
   have:15=nm:=by simpa [AV.mentions,AV.AO,C.mentions] using hn
   subst this;rw[St.AE];simp)
 refine HT 1 (by simp only[List.take_succ_cons,List.take_zero];rfl) (by simp only[List.drop_succ_cons,List.drop_zero];rfl) ?_;refine J9 hno ?_ _ _ ⟨_,_,hs5⟩
 repeat'(first|refine sA ?_|refine Aj rfl (by exact tt0) ?_|fail)
 refine VN (σ':=lsS [(0,.c (.ptr 100 0)),(1,.c (.ptr (8000+i) 0)),(4,.c (.row 15 (VQ R (Bt sil slot X i)).length))] ((15,.row 136 1 (rowOf LB (VQ R (Bt sil slot X i)))) :: (fxL slot turns R X.length loads sil arr r0 r2)) R X) ?_ ?_
 ·refine FV ?_ hX ⟨⟨_,rfl,.c (.ptr rfl)⟩,⟨_,rfl,.c (.ptr rfl)⟩,⟨_,rfl,.c (.row rfl rfl)⟩,trivial⟩ ⟨⟨_,rfl,.row (VZ.Ef _)⟩,⟨_,rfl,.box (CWs.Ef _)⟩,⟨_,rfl,.row (VZ.Ef _)⟩,⟨_,rfl,.pin rfl⟩,⟨_,rfl,.pin rfl⟩,trivial⟩ (fun j hj=>?_) (fun j hj=>?_) ?_ ?_
  ·intro p hp;rcases Aex.1 hp with rfl|hp
   ·simp
   ·exact hf p hp
  ·rw[Qw,F9,Ee (by omega)];exact J7 (l:=[]) hf hX hj
  ·rw[Qw,F9,Ee (by omega)];exact Lo (l:=[]) hf hX hj
  ·have hli:=Lq (FX:=(15,.row 136 1 (rowOf LB (VQ R (Bt sil slot X i)))) :: (fxL slot turns R X.length loads sil arr r0 r2)) (R:=R) (by
    intro p hp;rcases Aex.1 hp with rfl|hp
    ·simp
    ·exact hf p hp) hX hi
   intro p hp;simp only[Aex,Aek,or_false] at hp;rcases hp with rfl|rfl|rfl<;>refine⟨rfl,fun n hn=>?_⟩<;>simp only[AV.names,AV.Ce,C.names,Aex,Aek,or_false] at hn<;>subst hn<;>first|rfl|exact hli
  ·intro p hp;simp only[fxL,Aex,Aek,or_false] at hp;rcases hp with rfl|rfl|rfl|rfl|rfl<;>intro n hn
   ·rw[AY] at hn;cases hn
   ·simp only[Blk.names,List.flatMap_cons,List.flatMap_nil,C.names,List.nil_append,Aez,Aex,Aek,or_false] at hn;subst hn;rfl
   ·rw[AY] at hn;cases hn
   ·simp only[Blk.names,Aex,Aek,or_false] at hn;subst hn;rfl
   ·simp only[Blk.names,Aex,Aek,or_false] at hn;subst hn;rfl
 intro a6 w6 hs6;exact⟨_,hs6,BX h⟩
end Go.Proofs.M
end
section
namespace Go.Proofs
open Go Go.Sx Go.Proofs.T Go.Proofs.Q
set_option maxRecDepth 4000
attribute [local irreducible] VR VC thenQ blockQ retL
theorem WK (t:Tb) (Bk CP:Int):FnS Tryz.prog 40 [tbA t,AI Bk,AI CP] [] (.tup [stA (OX t Bk CP).1,AI (OX t Bk CP).2]) []:=by
 have hck:=DT t;refine fb Tryz.func40 (by kernel_rfl) rfl Tryz.ntmps40 Tryz.results40 rfl rfl rfl rfl fun E hS=>?_
 refine AK ?_;by_cases hc:Ci t=0
 ·rw[hc] at hck;have hl:=Cm hc;by_cases hr:Bk<1\/64<Bk\/CP<0\/2147483647<CP
  ·have e:OX t Bk CP=(noS,2):=by rw[OX,AeS (by omega),AeT hr]
   rw[e]
   repeat'(first|refine sR ?_|refine Aj rfl (by exact tt0) ?_|(refine gC ?_;first|refine Aa (hck) (gk rfl) rfl rfl rfl (by rfl) rfl (by exact Aw) rfl ?_|refine Aa (BC _ _) (gk rfl) rfl rfl rfl (by rfl) rfl (by exact Aw) rfl ?_)|(refine Ax rfl ?_ ?_<;>intro h<;>have hq:=h<;>(try simp only[hqs] at hq))|refine sq 5 rfl ?_|(refine gD ?_;first|refine Ah rfl ?_|refine Ag rfl ?_|(refine Ay rfl ?_ ?_<;>intro h<;>have hq:=h<;>(try simp only[hqs] at hq)))|fail)
   all_goals first
    |(exfalso;omega)
    |skip
   ·refine An (Am (l:=[(6,.c (.ptr 6 0)),(7,AI 2)]) (b:=[(6,.box noS.cs)]) (fun n=>n) ?_ ?_ rfl (by rfl)) (AL Ab rfl rfl rfl rfl rfl rfl rfl)
    all_goals repeat'(first|exact tt0|refine⟨⟨_,rfl,?_⟩,?_⟩|exact .c .d|exact .c (.ptr rfl)|refine .box ?_|exact .nil|refine .cons ?_ ?_|exact .d|fail)
   ·refine An (Am (l:=[(6,.c (.ptr 6 0)),(7,AI 2)]) (b:=[(6,.box noS.cs)]) (fun n=>n) ?_ ?_ rfl (by rfl)) (AL Ab rfl rfl rfl rfl rfl rfl rfl)
    all_goals repeat'(first|exact tt0|refine⟨⟨_,rfl,?_⟩,?_⟩|exact .c .d|exact .c (.ptr rfl)|refine .box ?_|exact .nil|refine .cons ?_ ?_|exact .d|fail)
   ·refine An (Am (l:=[(6,.c (.ptr 6 0)),(7,AI 2)]) (b:=[(6,.box noS.cs)]) (fun n=>n) ?_ ?_ rfl (by rfl)) (AL Ab rfl rfl rfl rfl rfl rfl rfl)
    all_goals repeat'(first|exact tt0|refine⟨⟨_,rfl,?_⟩,?_⟩|exact .c .d|exact .c (.ptr rfl)|refine .box ?_|exact .nil|refine .cons ?_ ?_|exact .d|fail)
  ·have e:OX t Bk CP=(⟨t,⟨Bk,[]⟩,[],[],0,0,-1,0,0,0,CP⟩,0):=by rw[OX,AeS (by omega),AeS hr]
   rw[e]
   repeat'(first|refine sB ?_|refine Aj rfl (by exact tt0) ?_|(refine gC ?_;first|refine Aa (hck) (gk rfl) rfl rfl rfl (by rfl) rfl (by exact Aw) rfl ?_|refine Aa (BC _ _) (gk rfl) rfl rfl rfl (by rfl) rfl (by exact Aw) rfl ?_|refine Aa (Mz t.cells (by omega)) (gk rfl) rfl rfl rfl (by(simp only[AZ,wfL,AH,wfs,Ae,Ad];rfl)) rfl (by exact B2) rfl ?_)|(refine Ax rfl ?_ ?_<;>intro h<;>have hq:=h<;>(try simp only[hqs] at hq))|(refine gD ?_;first|refine Ah rfl ?_|refine Ag rfl ?_|(refine Ay rfl ?_ ?_<;>intro h<;>have hq:=h<;>(try simp only[hqs] at hq)))|fail)
   all_goals first
    |(exfalso;omega)
    |skip
   refine An (Bv (l:=[(6,.c (.ptr 6 0)),(7,AI 0)]) (b:=[(6,.box (Sta.cs ⟨t,⟨Bk,[]⟩,[],[],0,0,-1,0,0,0,CP⟩))]) (fun n=>n) [26007] hS ?_ ?_ rfl (by rfl)) (AL Ab rfl rfl rfl rfl rfl rfl rfl)
   all_goals repeat'(first|exact tt0|refine⟨⟨_,rfl,?_⟩,?_⟩|exact .c .d|exact .c (.ptr rfl)|refine .box ?_|exact .nil|refine .cons ?_ ?_|exact .d|exact .Ck (by(simp;done)) rfl rfl (fun _=>rfl)|fail)
 ·have e:OX t Bk CP=(noS,1):=by rw[OX,AeT hc]
  have hd:decide (Ci t≠0)=true:=by simp[hc]
  rw[e]
  repeat'(first|refine sB ?_|refine Aj rfl (by exact tt0) ?_|(refine gC ?_;first|refine Aa (hck) (gk rfl) rfl rfl rfl (by rfl) rfl (by exact Aw) rfl ?_)|(refine gD ?_;first|refine Ah rfl ?_|refine At rfl (by assumption) ?_)|fail)
  refine An (Am (l:=[(6,.c (.ptr 6 0)),(7,AI 1)]) (b:=[(6,.box noS.cs)]) (fun n=>n) ?_ ?_ rfl (by rfl)) (AL Ab rfl rfl rfl rfl rfl rfl rfl)
  all_goals repeat'(first|exact tt0|refine⟨⟨_,rfl,?_⟩,?_⟩|exact .c .d|exact .c (.ptr rfl)|refine .box ?_|exact .nil|refine .cons ?_ ?_|exact .d|fail)
theorem JM (s:Sta):FnS Tryz.prog 164 [stA s] [] (stA (Dw s)) []:=by
 refine fb Tryz.func164 (by kernel_rfl) rfl Tryz.ntmps164 Tryz.results164 rfl rfl rfl rfl fun E hS=>?_
 repeat'(first|refine sB ?_|refine Aj rfl (by exact tt0) ?_|(refine gC ?_;first|refine Aa (Mq s.qu s.Bm) (gk rfl) rfl rfl rfl (by rfl) rfl (by exact Aw) rfl ?_)|(refine Ax rfl ?_ ?_<;>intro h<;>have hq:=h<;>(try simp only[hqs] at hq))|(refine gD ?_;first|refine Ag rfl ?_|(refine Ay rfl ?_ ?_<;>intro h<;>have hq:=h<;>(try simp only[hqs] at hq)))|fail)
 all_goals first
  |(rw[Dw,AeT ⟨by assumption,by assumption⟩]
    exact BQ Ab rfl rfl rfl rfl rfl)
  |(rw[Dw,AeS (by rintro⟨h1,h2⟩;first|omega|simp_all)]
    exact BQ Ab rfl rfl rfl rfl rfl)
set_option maxHeartbeats 2000000 in
theorem Ud (s:Sta) (p:Pk):FnS Tryz.prog 165 [stA s,pkA p] [] (.tup [stA (Jj s p).1,AD (pks (Jj s p).2.1),AI (Jj s p).2.2]) []:=by
 have hck:=Dl s;refine fb Tryz.func165 (by kernel_rfl) rfl Tryz.ntmps165 Tryz.results165 rfl rfl rfl rfl fun E hS=>?_
 refine AK ?_;by_cases hc:AT s=0
 ·rw[hc] at hck;by_cases he:(E7 s.qu p).2.2=0
  ·by_cases ht:p.to=s.tb.node
   ·have e:Jj s p=(noS,[],12):=by rw[Jj,AeS (by omega),AeS (by omega),AeT ht]
    have d1:decide ((E7 s.qu p).2.2≠0)=false:=Aee (by omega);have d2:decide (p.to=s.tb.node)=true:=Aed ht;rw[e]
    repeat'(first|refine sC ?_|refine Aj rfl (by exact tt0) ?_|(refine gC ?_;first|refine Aa (hck) (gk rfl) rfl rfl rfl (by rfl) rfl (by exact Aw) rfl ?_|refine Aa (Ji s.qu p) (gk rfl) rfl rfl rfl (by rfl) rfl (by exact Aw) rfl ?_)|(refine gD ?_;first|refine Ah rfl ?_|refine Ag rfl ?_|refine At rfl (by assumption) ?_)|fail)
    refine An (Am (l:=[(4,.c (.ptr 4 0)),(5,AD (pks [])),(6,AI 12)]) (b:=[(4,.box noS.cs)]) (fun n=>n) ?_ ?_ rfl (by rfl)) (Br Ab rfl rfl rfl rfl rfl rfl rfl rfl rfl)
    all_goals repeat'(first|exact tt0|refine⟨⟨_,rfl,?_⟩,?_⟩|exact .c .d|exact .c (.ptr rfl)|exact .c .nil|refine .box ?_|exact .nil|refine .cons ?_ ?_|exact .d|fail)
   ·have d1:decide ((E7 s.qu p).2.2≠0)=false:=Aee (by omega);have d2:decide (p.to=s.tb.node)=false:=Aee ht;by_cases hz:100<p.data.size
    ·have e:Jj s p=(noS,[],8):=by rw[Jj,AeS (by omega),AeS (by omega),AeS ht,AeT hz]
     have d3:decide ((100:Int)<(p.data.size:Nat))=true:=Aed (by omega);rw[e]
     repeat'(first|refine sC ?_|refine Aj rfl (by exact tt0) ?_|(refine gC ?_;first|refine Aa (hck) (gk rfl) rfl rfl rfl (by rfl) rfl (by exact Aw) rfl ?_|refine Aa (Ji s.qu p) (gk rfl) rfl rfl rfl (by rfl) rfl (by exact Aw) rfl ?_)|(refine gD ?_;first|refine Ah rfl ?_|refine Ag rfl ?_|refine At rfl (by assumption) ?_)|fail)
     refine An (Am (l:=[(4,.c (.ptr 4 0)),(5,AD (pks [])),(6,AI 8)]) (b:=[(4,.box noS.cs)]) (fun n=>n) ?_ ?_ rfl (by rfl)) (Br Ab rfl rfl rfl rfl rfl rfl rfl rfl rfl)
     all_goals repeat'(first|exact tt0|refine⟨⟨_,rfl,?_⟩,?_⟩|exact .c .d|exact .c (.ptr rfl)|exact .c .nil|refine .box ?_|exact .nil|refine .cons ?_ ?_|exact .d|fail)
    ·have e:Jj s p=(Dw {s with qu:=(E7 s.qu p).1},(E7 s.qu p).2.1,0):=by rw[Jj,AeS (by omega),AeS (by omega),AeS ht,AeS hz]
     have d3:decide ((100:Int)<(p.data.size:Nat))=false:=Aee (by omega);rw[e]
     repeat'(first|refine sR ?_|refine Aj rfl (by exact tt0) ?_|(refine gC ?_;first|refine Aa (hck) (gk rfl) rfl rfl rfl (by rfl) rfl (by exact Aw) rfl ?_|refine Aa (Ji s.qu p) (gk rfl) rfl rfl rfl (by rfl) rfl (by exact Aw) rfl ?_|refine Aa (Dr s hc) (gk rfl) rfl rfl rfl (by(simp only[AZ,wfL,AH,wfs,Ae,Ad];rfl)) rfl (by((simp only[Ep,List.map_cons,List.map_nil,Blk.shift,Cr])<;>rfl)) rfl ?_)|refine sq 12 rfl ?_|(refine gD ?_;first|refine Ag rfl ?_|refine At rfl (by assumption) ?_)|refine BV ?_|fail)
     refine VC.le (σ':=AS [(2,.c (.ptr 2 0)),(4,.c (.ptr 4 0)),(5,AD .Dh),(6,AI 0),(8,AD (pks (E7 s.qu p).2.1))] [(2,.box (Sta.cs {s with qu:=(E7 s.qu p).1})),(4,.box noS.cs)]) ?_ ?_
     ·refine Bv (fun n=>n) [42101,42102] hS ?_ ?_ rfl (by rfl)
      all_goals repeat'(first|exact tt0|refine⟨⟨_,rfl,?_⟩,?_⟩|exact .c .d|exact .c (.ptr rfl)|refine .box ?_|exact .nil|refine .cons ?_ ?_|exact .d|exact .Ck (by(simp;done)) rfl rfl (fun _=>rfl)|fail)
     repeat'(first|refine sB ?_|refine Aj rfl (by exact tt0) ?_|(refine gC ?_;first|refine Aa (JM {s with qu:=(E7 s.qu p).1}) (gk rfl) rfl rfl rfl (by rfl) rfl (by exact Aw) rfl ?_)|fail)
     refine An (Am (l:=[(4,.c (.ptr 4 0)),(5,AD (pks (E7 s.qu p).2.1)),(6,AI 0)]) (b:=[(4,.box (Dw {s with qu:=(E7 s.qu p).1}).cs)]) (fun n=>n) ?_ ?_ rfl (by rfl)) (Br Ab rfl rfl rfl rfl rfl rfl rfl rfl rfl)
     all_goals repeat'(first|exact tt0|refine⟨⟨_,rfl,?_⟩,?_⟩|exact .c .d|exact .c (.ptr rfl)|exact .Bh rfl rfl|fail)
  ·have e:Jj s p=(noS,[],(E7 s.qu p).2.2):=by rw[Jj,AeS (by omega),AeT he]
   have d1:decide ((E7 s.qu p).2.2≠0)=true:=Aed he;rw[e]
   repeat'(first|refine sC ?_|refine Aj rfl (by exact tt0) ?_|(refine gC ?_;first|refine Aa (hck) (gk rfl) rfl rfl rfl (by rfl) rfl (by exact Aw) rfl ?_|refine Aa (Ji s.qu p) (gk rfl) rfl rfl rfl (by rfl) rfl (by exact Aw) rfl ?_)|(refine gD ?_;first|refine Ah rfl ?_|refine Ag rfl ?_|refine At rfl (by assumption) ?_)|fail)
   refine An (Am (l:=[(4,.c (.ptr 4 0)),(5,AD (pks [])),(6,AI (E7 s.qu p).2.2)]) (b:=[(4,.box noS.cs)]) (fun n=>n) ?_ ?_ rfl (by rfl)) (Br Ab rfl rfl rfl rfl rfl rfl rfl rfl rfl)
   all_goals repeat'(first|exact tt0|refine⟨⟨_,rfl,?_⟩,?_⟩|exact .c .d|exact .c (.ptr rfl)|exact .c .nil|refine .box ?_|exact .nil|refine .cons ?_ ?_|exact .d|fail)
 ·have e:Jj s p=(noS,[],1):=by rw[Jj,AeT hc]
  have hd:decide (AT s≠0)=true:=by simp[hc]
  rw[e]
  repeat'(first|refine sB ?_|refine Aj rfl (by exact tt0) ?_|(refine gC ?_;first|refine Aa (hck) (gk rfl) rfl rfl rfl (by rfl) rfl (by exact Aw) rfl ?_)|(refine gD ?_;first|refine Ah rfl ?_|refine At rfl (by assumption) ?_)|fail)
  refine An (Am (l:=[(4,.c (.ptr 4 0)),(5,AD (pks [])),(6,AI 1)]) (b:=[(4,.box noS.cs)]) (fun n=>n) ?_ ?_ rfl (by rfl)) (Br Ab rfl rfl rfl rfl rfl rfl rfl rfl rfl)
  all_goals repeat'(first|exact tt0|refine⟨⟨_,rfl,?_⟩,?_⟩|exact .c .d|exact .c (.ptr rfl)|exact .c .nil|refine .box ?_|exact .nil|refine .cons ?_ ?_|exact .d|fail)
theorem AbQ (l:List Hd) (p:Hd->Bool) (hl:l.length<=100000):FnS Tryz.prog 161 [.c (.row 0 l.length),.clo (EZ p)] [(0,.row 110 5 (rowOf Hd.enc l))]
  (.c (.row 0 (l.filter fun x=>!p x).length)) [(0,.row 110 5 (rowOf Hd.enc (l.filter fun x=>!p x)))]:=by
 refine FnS.Bu (enters_of Tryz.func161 (by kernel_rfl) rfl) Tryz.func161 rfl Tryz.ntmps161 Tryz.results161 rfl (by first|rfl|(simp only[AZ,wfL,AH,wfs,Ae,Ad];rfl)) rfl fun E=>?_
 refine AK ?_;have hidx:=UC l p;cases hf:Fl l p with
 |none=>
  rw[hf] at hidx;have hidx':FnS Tryz.prog 217 [AD (hds l),.clo (EZ p)] [] (AI (-1)) []:=hidx
  repeat'(first|refine sB ?_|refine Aj rfl (by exact tt0) ?_|(refine gC ?_;first|refine AJ [0] (hidx') (gk rfl) rfl (by(repeat'(first|exact .nil|refine .cons ?_ ?_|exact .clo|exact(.of0 (.c (A9 (by simp) rfl rfl (fun _=>rfl))))))<;>fail) (by rfl) rfl (by rfl) rfl (by exact Aw) rfl ?_)|(refine gD ?_;first|refine Ah rfl ?_)|fail)
  have e:l.filter (fun x=>!p x)=l:=Go.Sx.filter_none (EE hf);rw[e];exact JU (Bn Ab rfl rfl)
 |some i=>
  rw[hf] at hidx;obtain⟨hi,hpi,hlt⟩:=BJ hf;have hidx':FnS Tryz.prog 217 [AD (hds l),.clo (EZ p)] [] (AI (i:Nat)) []:=hidx
  repeat'(first|refine sC ?_|refine Aj rfl (by first|exact tt0|omega) ?_|(refine gC ?_;first|refine AJ [0] (hidx') (gk rfl) rfl (by(repeat'(first|exact .nil|refine .cons ?_ ?_|exact .clo|exact(.of0 (.c (A9 (by simp) rfl rfl (fun _=>rfl))))))<;>fail) (by rfl) rfl (by rfl) rfl (by exact Aw) rfl ?_)|(refine gD ?_;first|refine Ag rfl ?_)|fail)
  refine AA (ι:=Nat×Nat×List Hd) (fun q=>AS [(0,.c (.row 0 l.length)),(1,.clo (EZ p)),(5,AI q.2.1),(6,AI q.1)] [(0,.row 110 5 (rowOf Hd.enc q.2.2))])
   (fun q=>q.1<=l.length/\q.2.1<q.1/\q.2.2.length=l.length/\q.2.2.take q.2.1=(l.take q.1).filter (fun x=>!p x)/\q.2.2.drop q.1=l.drop q.1) (fun q=>l.length-q.1) (i+1,i,l) ⟨hi,Nat.lt_succ_self _,rfl,Go.Sx.H3 hi hpi hlt,rfl⟩ ?_ ?_
  ·exact B4 ⟨rfl,rfl,rfl,rfl,trivial⟩ ⟨rfl,trivial⟩ (by simp only[wfL,wfs];rfl)
  ·rintro⟨k,j,L⟩ ⟨h1,h2,h3,h4,h5⟩;dsimp only at h1 h2 h3 h4 h5 ⊢
   repeat'(first|refine sR ?_|refine Aj rfl (by first|exact tt0|omega) ?_|(refine gC ?_;first|refine EV (⟨_,rfl,rfl⟩) (gk rfl) rfl rfl rfl rfl ?_)|(refine gI ?_;first|refine BF (gk rfl) rfl rfl rfl rfl rfl rfl (by omega) (by omega) rfl ?_)|(refine gE ?_;first|refine BA (gk rfl) rfl rfl (by(simp only[lns]<;>omega)) rfl rfl ?_)|(refine gL ?_;first|refine Da (gk rfl) rfl rfl (by omega) rfl rfl rfl ?_)|(refine gS ?_;first|refine By (gk rfl) rfl rfl rfl (by omega) rfl rfl rfl ?_)|refine sq 11 rfl ?_|(refine gD ?_;first|(refine Ay rfl ?_ ?_<;>intro h<;>have hq:=h<;>(try simp only[hqs] at hq)))|refine BV ?_|fail)
   ·have hk:k<l.length:=by omega
    obtain⟨hx,hd⟩:=Go.Sx.EI h3 h5 hk;refine⟨(k+1,j+1,L.set j (L.getD k default)),⟨by dsimp only;omega,by dsimp only;omega,by simp[h3],?_,?_⟩,by dsimp only;omega,Am (fun n=>n) ⟨⟨_,rfl,.c (.row rfl rfl)⟩,⟨_,rfl,.clo⟩,⟨_,rfl,.c .d⟩,⟨_,rfl,.c .d⟩,trivial⟩
     ⟨⟨_,rfl,.Bc (Dx rfl) Ai⟩,trivial⟩ rfl (by simp only[wfL,wfs];rfl)⟩
    ·dsimp only;rw[Go.Sx.take_set (by omega),h4,Go.Sx.Co hk,List.filter_append,hx,List.filter_cons_of_pos (by rw[<-hx];exact h)];rfl
    ·dsimp only;rw[List.drop_set_of_lt (by omega),hd]
   ·have hk:k<l.length:=by omega
    obtain⟨hx,hd⟩:=Go.Sx.EI h3 h5 hk;refine⟨(k+1,j,L),⟨by dsimp only;omega,by dsimp only;omega,h3,?_,hd⟩,by dsimp only;omega,Am (fun n=>n) ⟨⟨_,rfl,.c (.row rfl rfl)⟩,⟨_,rfl,.clo⟩,⟨_,rfl,.c .d⟩,⟨_,rfl,.c .d⟩,trivial⟩
     ⟨⟨_,rfl,.Bc rfl Ai⟩,trivial⟩ rfl (by simp only[wfL,wfs];rfl)⟩
    dsimp only;rw[h4,Go.Sx.Co hk,List.filter_append,List.filter_cons_of_neg (by rw[<-hx,h];simp)];simp
   ·have hk:k=l.length:=by omega
    subst hk;refine Ed (nm:=0) rfl (EW (by omega)) fun cp spare hcp hmax=>?_
    rw[Al] at hcp
    repeat'(first|refine sB ?_|refine Aj rfl (by exact tt0) ?_|(show VR _ _ _ (⟨_,.slice _ _ _ _ _,_,_,_,_⟩ :: _) _ _ _;first|refine B8 (gk rfl) rfl rfl (by exact .full) rfl rfl (by first|exact .no|exact .int rfl rfl) (by omega) (by omega) rfl ?_|refine Bg (gk rfl) rfl rfl (by exact .full) rfl rfl (by exact .int rfl rfl) (by exact .no) (by omega) (by omega) (by omega) rfl ?_)|(show VR _ _ _ (⟨_,.call ⟨.builtin .clear,_,_⟩,_,_,_,_⟩ :: _) _ _ _;first|refine Ja (gk rfl) rfl (by exact .sub) rfl rfl rfl rfl rfl (by(simp only[lns];omega)) ?_)|fail)
    rw[List.take_length] at h4;have hj:(l.filter fun x=>!p x).length=j:=by rw[<-h4,Aem];omega
    rw[hj,<-h4];refine An (Am (l:=[(4,.c (.row 0 j))]) (b:=[(0,.row 110 5 (rowOf Hd.enc (L.take j)))]) (fun n=>n) ⟨⟨_,rfl,.c (.row rfl rfl)⟩,trivial⟩ ⟨⟨_,rfl,.I4 j ?_⟩,trivial⟩ rfl (by simp only[wfL,wfs];rfl)) (Bn Ab rfl rfl);rw[Aey,List.take_append_of_le_length (by rw[Aem,Al];omega),List.take_take,Nat.min_self,CH]
theorem Sg (x:Hd) (t:Int):FnS Tryz.prog 162 [hdA x,AD (.pt 1 fun _=>.int .i64 t)] [] (AB (decide (x.til<t))) []:=by
 refine fb Tryz.func162 (by kernel_rfl) rfl Tryz.ntmps162 Tryz.results162 rfl rfl rfl rfl fun E hS=>?_
 repeat'(first|refine sB ?_|(refine gL ?_;first|refine K3 (gk rfl) rfl rfl rfl rfl ?_)|refine Aj rfl (by exact tt0) ?_|fail)
 all_goals exact As Ab rfl rfl
theorem Uh {σ:St} {t:Int} {L:List Nat}:AR Tryz.prog σ L (.fnc 162 [.d (.pt 1 fun _=>.int .i64 t)]) (.clo (EZ fun x=>decide (x.til<t))):=
 .fnc (eps:=[AD (.pt 1 fun _=>.int .i64 t)]) (.cons (.c .d) .nil) (enters_of Tryz.func162 (by kernel_rfl) rfl)
  (by rintro _ _ ⟨x,rfl,rfl⟩;exact⟨rfl,Sg x t⟩)
abbrev Q7 (l:List Hd) (slot:Int):List Hd:=l.filter fun h=>!decide (h.til<slot)
set_option maxHeartbeats 2000000 in
theorem NR (s:Sta) (slot:Int):FnS Tryz.prog 121 [stA s,AI slot] [] (.tup [stA (Cy s slot).1,AD (pks (Cy s slot).2.1),AI (Cy s slot).2.2]) []:=by
 have hck:=Dl s;refine fb Tryz.func121 (by kernel_rfl) rfl Tryz.ntmps121 Tryz.results121 rfl rfl rfl rfl fun E hS=>?_
 refine AK ?_;by_cases hc:AT s=0
 ·rw[hc] at hck;have hhl:=(DZ (Bl hc).2.2.2.1).1;by_cases hs:slot<0\/109951162<slot
  ·have e:Cy s slot=(noS,[],2):=by rw[Cy,AeS (by omega),AeT hs]
   have d1:(!decide (0<=slot/\slot<=109951162))=true:=by simp only[Bool.not_eq_true',Aeg];omega
   rw[e]
   repeat'(first|refine sB ?_|refine Aj rfl (by exact tt0) ?_|(refine gC ?_;first|refine Aa (hck) (gk rfl) rfl rfl rfl (by rfl) rfl (by exact Aw) rfl ?_|refine Aa (BC _ _) (gk rfl) rfl rfl rfl (by rfl) rfl (by exact Aw) rfl ?_)|(refine gD ?_;first|refine Ah rfl ?_|refine Ag rfl ?_|refine At rfl (by assumption) ?_)|fail)
   refine An (Am (l:=[(4,.c (.ptr 4 0)),(5,AD (pks [])),(6,AI 2)]) (b:=[(4,.box noS.cs)]) (fun n=>n) ?_ ?_ rfl (by rfl)) (Br Ab rfl rfl rfl rfl rfl rfl rfl rfl rfl)
   all_goals repeat'(first|exact tt0|refine⟨⟨_,rfl,?_⟩,?_⟩|exact .c .d|exact .c (.ptr rfl)|exact .c .nil|refine .box ?_|exact .nil|refine .cons ?_ ?_|exact .d|fail)
  ·have e:Cy s slot=(Dw {s with held:=Q7 s.held slot,qu:=(CS s.qu slot).1},(CS s.qu slot).2,0):=by rw[Cy,AeS (by omega),AeS hs]
   have d1:(!decide (0<=slot/\slot<=109951162))=false:=by simp only[Bool.not_eq_false',Aef];omega
   rw[e]
   repeat'(first|refine sR ?_|refine Aj rfl (by exact tt0) ?_|(refine gC ?_;first|refine Aa (hck) (gk rfl) rfl rfl rfl (by rfl) rfl (by exact Aw) rfl ?_|refine Aa (BC _ _) (gk rfl) rfl rfl rfl (by rfl) rfl (by exact Aw) rfl ?_|refine Aa (Dr s hc) (gk rfl) rfl rfl rfl (by(simp only[AZ,wfL,AH,wfs,Ae,Ad];rfl)) rfl (by((simp only[Ep,List.map_cons,List.map_nil,Blk.shift,Cr])<;>rfl)) rfl ?_)|refine sq 6 rfl ?_|(refine gD ?_;first|refine Ag rfl ?_|refine At rfl (by assumption) ?_)|fail)
   refine VC.le (σ':=AS [(2,.c (.ptr 2 0)),(3,AD (.pt 1 fun _=>.int .i64 slot)),(4,.c (.ptr 4 0)),(5,AD .Dh),(6,AI 0)] [(2,.box (s.csR (.row 101 s.held.length) (.d (sns s.seen)))),(4,.box noS.cs),(101,.row 110 5 (rowOf Hd.enc s.held))]) ?_ ?_
   ·refine Bv (fun n=>if n=101 then 18101 else n) [18102,3] hS ?_ ?_ rfl (by(simp only[wfL,wfs,Ae,Ad];rfl))
    all_goals repeat'(first|exact tt0|refine⟨⟨_,rfl,?_⟩,?_⟩|exact .c .d|exact .c (.ptr rfl)|exact .Bc rfl Ai|refine .box ?_|exact .nil|refine .cons ?_ ?_|exact .d|exact .row rfl rfl|exact .Ck (by(simp;done)) rfl rfl (fun _=>rfl)|fail)
    exact .c (.cr (.ptr (by simp) rfl fun j hj=>by
     have:j=0:=by omega
     subst this;rfl))
   repeat'(first|refine sR ?_|(refine gL ?_;first|refine K3 (gk rfl) rfl rfl rfl rfl ?_)|refine Aj rfl (by exact tt0) ?_|(refine gC ?_;first|refine Aa (P7 s.qu slot) (gk rfl) rfl rfl rfl (by rfl) rfl (by exact Aw) rfl ?_|refine Cw [] (AbQ s.held (fun h=>decide (h.til<slot)) (by omega)) (gk rfl) rfl rfl Ai rfl (.cons Uh .nil) rfl (by rfl) rfl (by(simp only[AZ,wfL,AH,wfs,Ae,Ad];rfl)) rfl (by exact B2) rfl ?_)|refine sq 9 rfl ?_|fail)
   refine VC.le (σ':=AS [(2,.c (.ptr 2 0)),(4,.c (.ptr 4 0)),(5,AD .Dh),(6,AI 0),(8,AD (pks (CS s.qu slot).2))] [(2,.box (Sta.cs {s with held:=Q7 s.held slot,qu:=(CS s.qu slot).1})),(4,.box noS.cs)]) ?_ ?_
   ·refine Bv (fun n=>n) [22000] hS ?_ ?_ rfl (by rfl)
    all_goals repeat'(first|exact tt0|refine⟨⟨_,rfl,?_⟩,?_⟩|exact .c .d|exact .c (.ptr rfl)|exact .Bh rfl rfl|refine .box ?_|exact .nil|refine .cons ?_ ?_|exact .d|exact .Ck (by(simp;done)) rfl rfl (fun _=>rfl)|fail)
   repeat'(first|refine sB ?_|refine Aj rfl (by exact tt0) ?_|(refine gC ?_;first|refine Aa (JM {s with held:=Q7 s.held slot,qu:=(CS s.qu slot).1}) (gk rfl) rfl rfl rfl (by rfl) rfl (by exact Aw) rfl ?_)|fail)
   refine An (Am (l:=[(4,.c (.ptr 4 0)),(5,AD (pks (CS s.qu slot).2)),(6,AI 0)]) (b:=[(4,.box (Dw {s with held:=Q7 s.held slot,qu:=(CS s.qu slot).1}).cs)]) (fun n=>n) ?_ ?_ rfl (by rfl)) (Br Ab rfl rfl rfl rfl rfl rfl rfl rfl rfl)
   all_goals repeat'(first|exact tt0|refine⟨⟨_,rfl,?_⟩,?_⟩|exact .c .d|exact .c (.ptr rfl)|exact .Bh rfl rfl|fail)
 ·have e:Cy s slot=(noS,[],1):=by rw[Cy,AeT hc]
  have hd:decide (AT s≠0)=true:=by simp[hc]
  rw[e]
  repeat'(first|refine sB ?_|refine Aj rfl (by exact tt0) ?_|(refine gC ?_;first|refine Aa (hck) (gk rfl) rfl rfl rfl (by rfl) rfl (by exact Aw) rfl ?_)|(refine gD ?_;first|refine Ah rfl ?_|refine At rfl (by assumption) ?_)|fail)
  refine An (Am (l:=[(4,.c (.ptr 4 0)),(5,AD (pks [])),(6,AI 1)]) (b:=[(4,.box noS.cs)]) (fun n=>n) ?_ ?_ rfl (by rfl)) (Br Ab rfl rfl rfl rfl rfl rfl rfl rfl rfl)
  all_goals repeat'(first|exact tt0|refine⟨⟨_,rfl,?_⟩,?_⟩|exact .c .d|exact .c (.ptr rfl)|exact .c .nil|refine .box ?_|exact .nil|refine .cons ?_ ?_|exact .d|fail)
end Go.Proofs
end
section
namespace Go.Proofs.M
open Go Go.Sx Go.Proofs Go.Proofs.T Go.Proofs.Q
open Go.Proofs.P (Nb nbs Rk rkA rkErr checkNb hearM countM forgetM select')
open Go.Proofs.R (startM advM)
set_option maxRecDepth 4000
attribute [local irreducible] VR VC thenQ blockQ retL
abbrev PhS (f:FuncId) (slot turns:Int) (nv:D) (loads:List Ld) (sil:List Si) (arr:List Ar) (w v:Wk):Prop:=
 FnW Tryz.prog f [.c (.ptr 100 0),.c (.ptr 101 0)] [(100,.box [.d (.int .i64 slot),.d (.int .i64 turns),.d nv,.d (lds loads),.d (sis sil),.row 102 arr.length]),(101,.box w.cs),(102,.row 62 3 (rowOf Ar.enc arr))] [100,101,102] (.tup []) [(100,.box [.d (.int .i64 slot),.d (.int .i64 turns),.d nv,.d (lds loads),.d (sis sil),.row 102 arr.length]),(101,.box v.cs),(102,.row 62 3 (rowOf Ar.enc arr))]
set_option maxHeartbeats 1000000 in
theorem T1 (slot turns:Int) (nv:D) (loads:List Ld) (sil:List Si) (arr:List Ar) (w:Wk):PhS 87 slot turns nv loads sil arr w (ZT slot arr w).2:=by
 have hm:=NR w.nd.st slot;intro r;simp only[Cd,List.map_cons,List.map_nil,List.cons_append,List.nil_append,Nat.reduceAdd];refine FnS.Bu (enters_of Tryz.func87 (by kernel_rfl) rfl) Tryz.func87 rfl Tryz.ntmps87 Tryz.results87 rfl (by first|rfl|(simp only[AZ,wfL,AH,wfs,Ae,Ad];rfl)) rfl fun E=>?_
 refine AK ?_;show VC E _ (retL E (Hm Tryz.prog _ _ [(9100,.pin 100 (r 100)),(9101,.pin 101 (r 101)),(9102,.pin 102 (r 102)),(100,.box [.d (.int .i64 slot),.d (.int .i64 turns),.d nv,.d (lds loads),.d (sis sil),.row 102 arr.length]),(101,.box (Wk.cs {w with nd:=Mw slot w.nd})),(102,.row 62 3 (rowOf Ar.enc arr))])) _;unfold Mw;by_cases h:(Cy w.nd.st slot).2.2=0
 ·have d1:decide ((Cy w.nd.st slot).2.2=0)=true:=Aed h;rw[AeT h]
  repeat'(first|refine sB ?_|refine Aj rfl (by exact tt0) ?_|(refine gC ?_;first|refine Aa (hm) (gk rfl) rfl rfl rfl (by rfl) rfl (by rfl) rfl ?_)|(refine gN ?_;first|refine Ak (gk rfl) rfl rfl ?_)|refine Ap (by kernel_rfl) ?_|(refine gD ?_;first|refine Ah rfl ?_|refine At rfl (by assumption) ?_)|fail)
  refine An (Am (l:=[]) (b:=[(9100,.pin 100 (r 100)),(9101,.pin 101 (r 101)),(9102,.pin 102 (r 102)),(100,.box [.d (.int .i64 slot),.d (.int .i64 turns),.d nv,.d (lds loads),.d (sis sil),.row 102 arr.length]),(101,.box (Wk.cs {w with nd:={w.nd with st:=(Cy w.nd.st slot).1}})),(102,.row 62 3 (rowOf Ar.enc arr))]) (fun n=>n) ?_ ?_ rfl (by(simp only[wfL,wfs,Ae,Ad];rfl))) (Ds BO .nil rfl (by repeat'(first|exact tt0|refine⟨rfl,?_⟩)))
  all_goals repeat'(first|exact tt0|refine⟨⟨_,rfl,?_⟩,?_⟩|exact .Bh rfl rfl|exact .pin rfl|exact .Bc rfl Ai|refine .box ?_|exact .nil|refine .cons ?_ ?_|exact .d|exact .row rfl rfl|fail)
 ·have d1:decide ((Cy w.nd.st slot).2.2=0)=false:=Aee h;rw[AeS h]
  repeat'(first|refine sB ?_|refine Aj rfl (by exact tt0) ?_|(refine gC ?_;first|refine Aa (hm) (gk rfl) rfl rfl rfl (by rfl) rfl (by rfl) rfl ?_)|(refine gN ?_;first|refine Ak (gk rfl) rfl rfl ?_)|refine Ap (by kernel_rfl) ?_|(refine gD ?_;first|refine Ag rfl ?_|refine At rfl (by assumption) ?_)|fail)
  refine An (Am (l:=[]) (b:=[(9100,.pin 100 (r 100)),(9101,.pin 101 (r 101)),(9102,.pin 102 (r 102)),(100,.box [.d (.int .i64 slot),.d (.int .i64 turns),.d nv,.d (lds loads),.d (sis sil),.row 102 arr.length]),(101,.box (Wk.cs w)),(102,.row 62 3 (rowOf Ar.enc arr))]) (fun n=>n) ?_ ?_ rfl (by(simp only[wfL,wfs,Ae,Ad];rfl))) (Ds BO .nil rfl (by repeat'(first|exact tt0|refine⟨rfl,?_⟩)))
  all_goals repeat'(first|exact tt0|refine⟨⟨_,rfl,?_⟩,?_⟩|exact .Bh rfl rfl|exact .pin rfl|exact .Bc rfl Ai|refine .box ?_|exact .nil|refine .cons ?_ ?_|exact .d|exact .row rfl rfl|fail)
abbrev UN (slot:Int) (x:MN) (d:ByteArray):Pk:=⟨x.next,x.rk.parent,1,slot,256,d⟩
abbrev GiS (slot turns:Int) (nv:D) (loads:List Ld) (sil:List Si) (arr:List Ar) (w:Wk) (d:ByteArray):Prop:=
 FnW Tryz.prog 122 [.c (.ptr 100 0),.c (.ptr 101 0),AD (.str d)] [(100,.box [.d (.int .i64 slot),.d (.int .i64 turns),.d nv,.d (lds loads),.d (sis sil),.row 102 arr.length]),(101,.box w.cs),(102,.row 62 3 (rowOf Ar.enc arr))] [100,101,102] (.tup []) [(100,.box [.d (.int .i64 slot),.d (.int .i64 turns),.d nv,.d (lds loads),.d (sis sil),.row 102 arr.length]),(101,.box (Wk.cs {w with nd:=Hr slot w.nd d})),(102,.row 62 3 (rowOf Ar.enc arr))]
set_option maxHeartbeats 2000000 in
theorem Lh (slot turns:Int) (nv:D) (loads:List Ld) (sil:List Si) (arr:List Ar) (w:Wk) (d:ByteArray) (hx:0<=w.nd.next/\w.nd.next<=65535):GiS slot turns nv loads sil arr w d:=by
 have hm:=Ud w.nd.st (UN slot w.nd d);intro r;simp only[Cd,List.map_cons,List.map_nil,List.cons_append,List.nil_append,Nat.reduceAdd];refine FnS.Bu (enters_of Tryz.func122 (by kernel_rfl) rfl) Tryz.func122 rfl Tryz.ntmps122 Tryz.results122 rfl (by first|rfl|(simp only[AZ,wfL,AH,wfs,Ae,Ad];rfl)) rfl fun E=>?_
 refine AK ?_;unfold Hr;by_cases h0:w.nd.rk.parent<0
 ·have d0:decide (w.nd.rk.parent<0)=true:=Aed h0;rw[AeT h0]
  repeat'(first|refine sB ?_|refine Aj rfl (by exact tt0) ?_|(refine gN ?_;first|refine Ak (gk rfl) rfl rfl ?_)|(refine gD ?_;first|refine Ah rfl ?_|refine At rfl (by assumption) ?_)|fail)
  refine An (Am (l:=[]) (b:=[(9100,.pin 100 (r 100)),(9101,.pin 101 (r 101)),(9102,.pin 102 (r 102)),(100,.box [.d (.int .i64 slot),.d (.int .i64 turns),.d nv,.d (lds loads),.d (sis sil),.row 102 arr.length]),(101,.box (Wk.cs w)),(102,.row 62 3 (rowOf Ar.enc arr))]) (fun n=>n) ?_ ?_ rfl (by(simp only[wfL,wfs,Ae,Ad];rfl))) (Ds Ab .nil rfl (by repeat'(first|exact tt0|refine⟨rfl,?_⟩)))
  all_goals repeat'(first|exact tt0|refine⟨⟨_,rfl,?_⟩,?_⟩|exact .Bh rfl rfl|exact .pin rfl|exact .Bc rfl Ai|refine .box ?_|exact .nil|refine .cons ?_ ?_|exact .d|exact .row rfl rfl|fail)
 ·have d0:decide (w.nd.rk.parent<0)=false:=Aee h0;rw[AeS h0];by_cases h:(Jj w.nd.st (UN slot w.nd d)).2.2=0
  ·have d1:decide ((Jj w.nd.st (UN slot w.nd d)).2.2=0)=true:=Aed h;rw[AeT h]
   repeat'(first|refine sB ?_|refine Aj rfl (by first|exact tt0|omega) ?_|(refine gC ?_;first|refine Aa (hm) (gk rfl) rfl rfl rfl (by rfl) rfl (by rfl) rfl ?_)|(refine gN ?_;first|refine Ak (gk rfl) rfl rfl ?_)|refine Ap (by kernel_rfl) ?_|(refine gD ?_;first|refine Ah rfl ?_|refine Ag rfl ?_|refine At rfl (by assumption) ?_)|fail)
   refine An (Am (l:=[]) (b:=[(9100,.pin 100 (r 100)),(9101,.pin 101 (r 101)),(9102,.pin 102 (r 102)),(100,.box [.d (.int .i64 slot),.d (.int .i64 turns),.d nv,.d (lds loads),.d (sis sil),.row 102 arr.length]),(101,.box (Wk.cs {w with nd:={w.nd with st:=(Jj w.nd.st (UN slot w.nd d)).1,next:=(w.nd.next+1) % 65536}})),(102,.row 62 3 (rowOf Ar.enc arr))]) (fun n=>n) ?_ ?_ rfl (by(simp only[wfL,wfs,Ae,Ad];rfl))) (Ds BO .nil rfl (by repeat'(first|exact tt0|refine⟨rfl,?_⟩)))
   all_goals repeat'(first|exact tt0|refine⟨⟨_,rfl,?_⟩,?_⟩|exact .Bh rfl rfl|exact .pin rfl|exact .Bc rfl Ai|refine .box ?_|exact .nil|refine .cons ?_ ?_|exact .d|exact .row rfl rfl|fail)
  ·have d1:decide ((Jj w.nd.st (UN slot w.nd d)).2.2=0)=false:=Aee h;rw[AeS h]
   repeat'(first|refine sB ?_|refine Aj rfl (by exact tt0) ?_|(refine gC ?_;first|refine Aa (hm) (gk rfl) rfl rfl rfl (by rfl) rfl (by rfl) rfl ?_)|(refine gN ?_;first|refine Ak (gk rfl) rfl rfl ?_)|refine Ap (by kernel_rfl) ?_|(refine gD ?_;first|refine Ag rfl ?_|refine At rfl (by assumption) ?_)|fail)
   refine An (Am (l:=[]) (b:=[(9100,.pin 100 (r 100)),(9101,.pin 101 (r 101)),(9102,.pin 102 (r 102)),(100,.box [.d (.int .i64 slot),.d (.int .i64 turns),.d nv,.d (lds loads),.d (sis sil),.row 102 arr.length]),(101,.box (Wk.cs w)),(102,.row 62 3 (rowOf Ar.enc arr))]) (fun n=>n) ?_ ?_ rfl (by(simp only[wfL,wfs,Ae,Ad];rfl))) (Ds BO .nil rfl (by repeat'(first|exact tt0|refine⟨rfl,?_⟩)))
   all_goals repeat'(first|exact tt0|refine⟨⟨_,rfl,?_⟩,?_⟩|exact .Bh rfl rfl|exact .pin rfl|exact .Bc rfl Ai|refine .box ?_|exact .nil|refine .cons ?_ ?_|exact .d|exact .row rfl rfl|fail)
theorem Of {slot:Int} {x:MN} {d:ByteArray} (h:0<=x.next/\x.next<=65535):0<=(Hr slot x d).next/\(Hr slot x d).next<=65535:=by
 unfold Hr
 split
 ·exact h
 ·split
  ·show 0<=(x.next+1) % 65536/\(x.next+1) % 65536<=65535;omega
  ·exact h
theorem HS {slot i:Int}:∀(ls:List Ld) {x:MN},0<=x.next/\x.next<=65535->0<=(Eh slot i ls x).next/\(Eh slot i ls x).next<=65535
 |[],_,h=>h
 |l :: ls,x,h=>by
  unfold Eh
  split
  ·exact HS ls (Of h)
  ·exact HS ls h
theorem Lr (slot i:Int):∀(a:List Ld) (l:Ld) (x:MN),Eh slot i (a++[l]) x=if l.slot=slot/\l.node=i/\i≠0 then Hr slot (Eh slot i a x) (Xk i (Eh slot i a x).next) else Eh slot i a x
 |[],_,_=>rfl
 |b :: a,l,x=>Lr slot i a l _
abbrev Jp (p:Ar->Bool):List DV->DV->Prop:=fun ds r=>∃x:Ar,ds=[.agg x.enc]/\r=.d (.bool (p x))
theorem ZK (l:List Ar) (p:Ar->Bool):FnS Tryz.prog 60 [AD (ars l),.clo (Jp p)] [] (AI (oI (Fl l p))) []:=by
 refine fb Tryz.func60 (by kernel_rfl) rfl Tryz.ntmps60 Tryz.results60 rfl rfl rfl rfl fun E hS=>?_
 refine BP (t:=0) rfl fun hb=>?_
 repeat'(first|refine sC ?_|refine Aj rfl (by exact tt0) ?_|fail)
 refine AA (ι:=Nat) (fun k=>AS [(0,AD (ars l)),(1,.clo (Jp p)),(7,AI l.length),(8,AI k)] []) (fun k=>k<=l.length/\∀i,i<k->p (l.getD i default)=false) (fun k=>l.length-k) 0 ⟨AeV _,fun i hi=>absurd hi (AeQ _)⟩ ?_ ?_
 ·exact B4 ⟨rfl,rfl,rfl,rfl,trivial⟩ trivial rfl
 ·intro k hk
  repeat'(first|refine sC ?_|refine Aj rfl (by first|exact tt0|omega) ?_|(refine gC ?_;first|refine EV (⟨_,rfl,rfl⟩) (gk rfl) rfl rfl rfl rfl ?_)|(refine gI ?_;first|refine Aq (gk rfl) rfl rfl rfl rfl rfl (by omega) rfl ?_)|(refine gD ?_;first|(refine Ay rfl ?_ ?_<;>intro h<;>have hq:=h<;>(try simp only[hqs] at hq)))|fail)
  ·refine AG Ab rfl ?_;rw[Er hk.2 (by omega) h];rfl
  ·refine⟨k+1,⟨by omega,fun i hi=>?_⟩,by omega,B4 ⟨rfl,rfl,rfl,rfl,trivial⟩ trivial rfl⟩;by_cases hik:i<k
   ·exact hk.2 i hik
   ·have:i=k:=by omega
    subst this;exact h
  ·refine AG Ab rfl ?_;have:k=l.length:=by omega
   subst this;rw[DI hk.2];rfl
theorem Oy (l:List Ar) (p:Ar->Bool):FnS Tryz.prog 30 [AD (ars l),.clo (Jp p)] [] (AB (l.any p)) []:=by
 refine fb Tryz.func30 (by kernel_rfl) rfl Tryz.ntmps30 Tryz.results30 rfl rfl rfl rfl fun E hS=>?_
 repeat'(first|refine sB ?_|refine Aj rfl (by exact tt0) ?_|(refine gC ?_;first|refine AJ [] (ZK l p) (gk rfl) rfl (by(repeat'(first|exact .nil|refine .cons ?_ ?_|exact .of0 (.c .d)|exact .clo))<;>fail) (by rfl) rfl (by rfl) rfl (by rfl) rfl ?_)|fail)
 all_goals exact As Ab rfl (E1 _ _).symm
def Aao (y x:Ar):Bool:=decide (x.origin=y.origin)&&decide (x.id=y.id)
theorem UQ (x y:Ar):FnS Tryz.prog 133 [arA x,.ep (fun j=>y.enc.getD j .Dh) 3] [] (AB (Aao y x)) []:=by
 refine fb Tryz.func133 (by kernel_rfl) rfl Tryz.ntmps133 Tryz.results133 rfl rfl rfl rfl fun E hS=>?_
 repeat'(first|refine sB ?_|refine Aj rfl (by exact tt0) ?_|(refine Ax rfl ?_ ?_<;>intro h<;>have hq:=h<;>(try simp only[hqs] at hq))|fail)
 all_goals(refine As Ab rfl ?_;unfold Aao;first|(simp_all;done)|(simp_all;omega))
theorem Q4 {σ:St} {y:Ar} {n1:Nat} {L:List Nat} (hL:n1∈L) (h1:σ (.b n1)=some (.k (.box y.cs))):AR Tryz.prog σ L (.fnc 133 [.ptr n1 0]) (.clo (Jp (Aao y))):=
 .fnc (eps:=[.ep (fun j=>y.enc.getD j .Dh) 3]) (.cons (.ptr hL h1 (fun j hj=>by
  have:j=0\/j=1\/j=2:=by omega
  rcases this with rfl|rfl|rfl<;>rfl)) .nil) (enters_of Tryz.func133 (by kernel_rfl) rfl)
  (by rintro _ _ ⟨x,rfl,rfl⟩;exact⟨rfl,UQ x y⟩)
abbrev PhF (f:FuncId) (slot turns:Int) (nv:D) (loads:List Ld) (sil:List Si) (arr:List Ar) (w:Wk):Prop:=
 FnW Tryz.prog f [.c (.ptr 100 0),.c (.ptr 101 0)] [(100,.box [.d (.int .i64 slot),.d (.int .i64 turns),.d nv,.d (lds loads),.d (sis sil),.row 102 arr.length]),(101,.box w.cs),(102,.row 62 3 (rowOf Ar.enc arr))] [100,101] (.tup []) [(100,.box [.d (.int .i64 slot),.d (.int .i64 turns),.d nv,.d (lds loads),.d (sis sil),.row 102 (HA slot arr w).1.length]),(101,.box (HA slot arr w).2.cs),(102,.row 62 3 (rowOf Ar.enc (HA slot arr w).1))]
theorem Hx (s:ByteArray) (i:Nat):0<=bAt s i/\bAt s i<256:=by
 unfold bAt;have:=(s.data.toList.getD i 0).toNat_lt;omega
theorem Z6 {a b:Nat} (ha:a<2^62) (hb:b<2^62):VV .or .i64 a b=((a ||| b:Nat):Int):=by
 rw[ME];unfold Z7;dsimp only;show IntKind.i64.wrap ((BitVec.ofInt 64 a ||| BitVec.ofInt 64 b).toNat:Int)=_;have h:a ||| b<2^62:=Nat.or_lt_two_pow ha hb;rw[BitVec.ofInt_natCast,BitVec.ofInt_natCast,BitVec.toNat_or,BitVec.toNat_ofNat,BitVec.toNat_ofNat,Nat.mod_eq_of_lt (a:=a) (by omega),Nat.mod_eq_of_lt (a:=b) (by omega),wrap_i64 (by omega)]
theorem Abp {a b:Int} (ha:0<=a/\a<256) (hb:0<=b/\b<256):VV .or .i64 (IntKind.i64.wrap (IntKind.i64.wrap a*2^Int.toNat 8)) (IntKind.i64.wrap b)=256*a+b:=by
 have e8:(2:Int)^Int.toNat 8=256:=by decide
 rw[e8,wrap_i64 (a:=a) (by omega),wrap_i64 (a:=b) (by omega),wrap_i64 (by omega)];have h1:a*256=((2^8*a.toNat:Nat):Int):=by omega
 have h2:b=((b.toNat:Nat):Int):=by omega
 rw[h1]
 conv=>lhs;rw[h2]
 rw[Z6 (by omega) (by omega),XU (by omega)];omega
set_option maxHeartbeats 4000000 in
set_option maxRecDepth 100000 in
theorem T0 (slot turns:Int) (nv:D) (loads:List Ld) (sil:List Si) (arr:List Ar) (w:Wk) (hx:0<=w.nd.next/\w.nd.next<=65535) (hal:arr.length<=4096):PhF 93 slot turns nv loads sil arr w:=by
 have hgi:=Lh slot turns nv loads sil arr w w.up.data hx;have hcf:=Oy arr (Aao (S7 w.up.data slot));intro r;simp only[Cd,List.map_cons,List.map_nil,List.cons_append,List.nil_append,Nat.reduceAdd];refine FnS.Bu (enters_of Tryz.func93 (by kernel_rfl) rfl) Tryz.func93 rfl Tryz.ntmps93 Tryz.results93 rfl (by first|rfl|(simp only[AZ,wfL,AH,wfs,Ae,Ad];rfl)) rfl fun E=>?_
 refine AK ?_;have hno:Ol w=false->HA slot arr w=(arr,w):=fun h=>AeT h
 cases h1:w.up.new with
 |false=>
  have d1:(!w.up.new)=true:=by rw[h1];rfl
  rw[hno (by unfold Ol;rw[h1];rfl)]
  repeat'(first|refine sB ?_|refine Aj rfl (by exact tt0) ?_|(refine gN ?_;first|refine Ak (gk rfl) rfl rfl ?_)|refine Az rfl (by assumption) ?_|refine Ap (by kernel_rfl) ?_|(refine gD ?_;first|refine Ah rfl ?_)|fail)
  refine An (Am (l:=[]) (b:=[(9100,.pin 100 (r 100)),(9101,.pin 101 (r 101)),(100,.box [.d (.int .i64 slot),.d (.int .i64 turns),.d nv,.d (lds loads),.d (sis sil),.row 102 arr.length]),(101,.box (Wk.cs w)),(102,.row 62 3 (rowOf Ar.enc arr))]) (fun n=>n) ?_ ?_ rfl (by(simp only[wfL,wfs,Ae,Ad];rfl))) (Ds Ab .nil rfl (by repeat'(first|exact tt0|refine⟨rfl,?_⟩)))
  all_goals repeat'(first|exact tt0|refine⟨⟨_,rfl,?_⟩,?_⟩|exact .Bh rfl rfl|exact .pin rfl|exact .Bc rfl Ai|refine .box ?_|exact .nil|refine .cons ?_ ?_|exact .d|exact .row rfl rfl|fail)
 |true=>
  have d1:(!w.up.new)=false:=by rw[h1];rfl
  by_cases h2:w.up.B1=4
  ·have d2:decide (w.up.B1≠4)=false:=Aee (by simpa using h2);by_cases h3:w.up.target=w.node
   ·have d3:decide (w.up.target≠w.node)=false:=Aee (by simpa using h3);by_cases h4:w.up.data.size=3
    ·have d4:decide ((w.up.data.size:Int)≠3)=false:=Aee (by omega);have hf:Ol w=true:=by unfold Ol;rw[h1,Aed h2,Aed h3,Aed h4];rfl
     by_cases h5:w.node=0
     ·have d5:decide (w.node≠0)=false:=Aee (by simpa using h5);have e:HA slot arr w=(Es arr w.up.data slot,w):=by
       unfold HA;rw[AeS (by rw[hf];simp),AeS (by simpa using h5)]
      have b0:=Hx w.up.data 0;have b1:=Hx w.up.data 1;have b2:=Hx w.up.data 2;rw[e];dsimp only
      repeat'(first|refine sR ?_|(show VR _ _ _ (⟨_,.binOp .shl _ _ _ _,_,_,_,_⟩ :: _) _ _ _;first|refine LM (gk rfl) rfl rfl (by omega) (by decide) rfl rfl ?_)|refine Aj rfl (by exact tt0) ?_|(refine gX ?_;first|refine Df (m:=0) (gk rfl) rfl rfl rfl (by decide) (by omega) rfl rfl ?_|refine Df (gk rfl) rfl rfl rfl (by omega) (by omega) (by exact(Int.toNat_natCast _).symm) rfl ?_)|(refine gN ?_;first|refine Ak (gk rfl) rfl rfl ?_)|(refine gV ?_;first|refine Ba (gk rfl) rfl ⟨_,rfl⟩ rfl (by exact wrap_i64 (by omega)) rfl ?_|refine CX (gk rfl) rfl ⟨_,rfl⟩ rfl rfl ?_)|(refine gB ?_;first|refine O9 (gk rfl) rfl rfl rfl rfl rfl ?_)|refine Az rfl (by assumption) ?_|refine Ap (by kernel_rfl) ?_|refine sq 5 rfl ?_|(refine gD ?_;first|refine Ag rfl ?_|refine At rfl (by assumption) ?_)|fail)
      refine VC.le (σ':=AS [(0,.c (.ptr 100 0)),(1,.c (.ptr 101 0)),(5,.c (.ptr 5 0))] [(9100,.pin 100 (r 100)),(9101,.pin 101 (r 101)),(100,.box [.d (.int .i64 slot),.d (.int .i64 turns),.d nv,.d (lds loads),.d (sis sil),.row 102 arr.length]),(101,.box w.cs),(102,.row 62 3 (rowOf Ar.enc arr)),(5,.box (S7 w.up.data slot).cs)]) ?_ ?_
      ·have ek:VV .or .i64 (IntKind.i64.wrap (IntKind.i64.wrap (bAt w.up.data 1)*2^Int.toNat 8)) (IntKind.i64.wrap (bAt w.up.data 2))=256*bAt w.up.data 1+bAt w.up.data 2:=Abp b1 b2;have ew:IntKind.i64.wrap (bAt w.up.data 0)=bAt w.up.data 0:=wrap_i64 (by omega);show Le _ _ (AS _ [_,_,_,_,_,(5,.box [.d (.int .i64 (bAt w.up.data 0)),.d (.int .i64 (256*bAt w.up.data 1+bAt w.up.data 2)),.d (.int .i64 slot)])]);rw[<-ek];refine Am (fun n=>n) ?_ ?_ rfl (by(simp only[wfL,wfs,Ae,Ad];rfl))
       all_goals repeat'(first|exact tt0|refine⟨⟨_,rfl,?_⟩,?_⟩|exact .c (.ptr rfl)|exact .Bh rfl rfl|exact .pin rfl|exact .Bc rfl Ai|refine .box ?_|exact .nil|refine .cons ?_ ?_|exact .d|exact .row rfl rfl|fail)
      cases h6:arr.any (Aao (S7 w.up.data slot)) with
      |true=>
       have ea:Es arr w.up.data slot=arr:=AeT h6;rw[h6] at hcf;rw[ea]
       repeat'(first|refine sB ?_|refine Aj rfl (by exact tt0) ?_|(refine gC ?_;first|refine AJ [5,102] (hcf) (gk rfl) rfl (by(repeat'(first|exact .nil|refine .cons ?_ ?_|exact(Q4 (by simp) rfl)|exact .of0 (.c (A9 (by simp) rfl (by rfl) (fun _=>rfl)))))<;>fail) (by rfl) rfl (by rfl) rfl (by rfl) rfl ?_)|(refine gN ?_;first|refine Ak (gk rfl) rfl rfl ?_)|(refine gD ?_;first|refine Ag rfl ?_)|fail)
       refine An (Am (l:=[]) (b:=[(9100,.pin 100 (r 100)),(9101,.pin 101 (r 101)),(100,.box [.d (.int .i64 slot),.d (.int .i64 turns),.d nv,.d (lds loads),.d (sis sil),.row 102 arr.length]),(101,.box (Wk.cs w)),(102,.row 62 3 (rowOf Ar.enc arr))]) (fun n=>n) ?_ ?_ rfl (by(simp only[wfL,wfs,Ae,Ad];rfl))) (Ds BO .nil rfl (by repeat'(first|exact tt0|refine⟨rfl,?_⟩)))
       all_goals repeat'(first|exact tt0|refine⟨⟨_,rfl,?_⟩,?_⟩|exact .Bh rfl rfl|exact .pin rfl|exact .Bc rfl Ai|refine .box ?_|exact .nil|refine .cons ?_ ?_|exact .d|exact .row rfl rfl|fail)
      |false=>
       rw[h6] at hcf;have en:¬(arr.any fun x=>decide (x.origin=(S7 w.up.data slot).origin)&&decide (x.id=(S7 w.up.data slot).id))=true:=by
        show ¬arr.any (Aao (S7 w.up.data slot))=true;rw[h6];simp
       repeat'(first|refine sR ?_|refine Aj rfl (by exact tt0) ?_|(refine gC ?_;first|refine AJ [5,102] (hcf) (gk rfl) rfl (by(repeat'(first|exact .nil|refine .cons ?_ ?_|exact(Q4 (by simp) rfl)|exact .of0 (.c (A9 (by simp) rfl (by rfl) (fun _=>rfl)))))<;>fail) (by rfl) rfl (by rfl) rfl (by rfl) rfl ?_)|(refine gN ?_;first|refine Ak (gk rfl) rfl rfl ?_)|refine sq 6 rfl ?_|fail)
       refine VC.le (σ':=AS [(0,.c (.ptr 100 0)),(1,.c (.ptr 101 0)),(5,.c (.ptr 5 0)),(6,AB false)] [(9100,.pin 100 (r 100)),(9101,.pin 101 (r 101)),(100,.box [.d (.int .i64 slot),.d (.int .i64 turns),.d nv,.d (lds loads),.d (sis sil),.row 102 arr.length]),(101,.box w.cs),(102,.row 62 3 (rowOf Ar.enc arr)),(5,.box (S7 w.up.data slot).cs)]) ?_ ?_
       ·refine Am (fun n=>n) ?_ ?_ rfl (by(simp only[wfL,wfs,Ae,Ad];rfl))
        all_goals repeat'(first|exact tt0|refine⟨⟨_,rfl,?_⟩,?_⟩|exact .c .d|exact .c (.ptr rfl)|exact .Bh rfl rfl|exact .pin rfl|exact .Bc rfl Ai|refine .box ?_|exact .nil|refine .cons ?_ ?_|exact .d|exact .row rfl rfl|fail)
       by_cases h7:4096<=arr.length
       ·have d7:decide ((arr.length:Int)<4096)=false:=Aee (by omega);have ea:Es arr w.up.data slot=arr:=by unfold Es;rw[AeS en,AeT h7]
        rw[ea];clear h7
        repeat'(first|refine sB ?_|refine Aj rfl (by exact tt0) ?_|(refine gE ?_;first|refine BA (gk rfl) rfl rfl (by exact Al.symm) rfl rfl ?_)|(refine gN ?_;first|refine Ak (gk rfl) rfl rfl ?_)|(refine gD ?_;first|refine Ag rfl ?_|refine At rfl (by assumption) ?_)|fail)
        refine An (Am (l:=[]) (b:=[(9100,.pin 100 (r 100)),(9101,.pin 101 (r 101)),(100,.box [.d (.int .i64 slot),.d (.int .i64 turns),.d nv,.d (lds loads),.d (sis sil),.row 102 arr.length]),(101,.box (Wk.cs w)),(102,.row 62 3 (rowOf Ar.enc arr))]) (fun n=>n) ?_ ?_ rfl (by(simp only[wfL,wfs,Ae,Ad];rfl))) (Ds BO .nil rfl (by repeat'(first|exact tt0|refine⟨rfl,?_⟩)))
        all_goals repeat'(first|exact tt0|refine⟨⟨_,rfl,?_⟩,?_⟩|exact .Bh rfl rfl|exact .pin rfl|exact .Bc rfl Ai|refine .box ?_|exact .nil|refine .cons ?_ ?_|exact .d|exact .row rfl rfl|fail)
       ·have d7:decide ((arr.length:Int)<4096)=true:=Aed (by omega);have ea:Es arr w.up.data slot=arr++[S7 w.up.data slot]:=by unfold Es;rw[AeS en,AeS h7]
        rw[ea];clear h7
        repeat'(first|refine sB ?_|refine Aj rfl (by exact tt0) ?_|(refine gE ?_;first|refine BA (gk rfl) rfl rfl (by exact Al.symm) rfl rfl ?_)|(refine gA ?_;first|refine Bf (gk rfl) rfl rfl rfl (by exact Al.symm) (by exact .row rfl (by rfl)) rfl rfl rfl (by(try dsimp only);omega) rfl rfl ?_)|(refine gN ?_;first|refine Ak (gk rfl) rfl rfl ?_)|refine Ap (by kernel_rfl) ?_|(refine gD ?_;first|refine Ah rfl ?_|refine At rfl (by assumption) ?_)|fail)
        refine An (Am (l:=[]) (b:=[(9100,.pin 100 (r 100)),(9101,.pin 101 (r 101)),(100,.box [.d (.int .i64 slot),.d (.int .i64 turns),.d nv,.d (lds loads),.d (sis sil),.row 102 (arr++[S7 w.up.data slot]).length]),(101,.box (Wk.cs w)),(102,.row 62 3 (rowOf Ar.enc (arr++[S7 w.up.data slot])))]) (fun n=>if n=102 then 90 else n) ?_ ?_ rfl (by(simp only[wfL,wfs,Ae,Ad];rfl))) (Ds BO .nil rfl (by repeat'(first|exact tt0|refine⟨rfl,?_⟩)))
        all_goals repeat'(first|exact tt0|refine⟨⟨_,rfl,?_⟩,?_⟩|exact .Bh rfl rfl|exact .pin rfl|(refine .Bc ?_ Ai;rw[A4];rfl)|refine .box ?_|exact .nil|refine .cons ?_ ?_|exact .d|(refine .row rfl ?_;((try dsimp only);first|(simp only[lns]<;>omega));done)|fail)
     ·have d5:decide (w.node≠0)=true:=Aed h5;have e:HA slot arr w=(arr,⟨Hr slot w.nd w.up.data,w.node,w.ac,w.bc,w.rs,w.up⟩):=by
       unfold HA;rw[AeS (by rw[hf];simp),AeT h5]
      rw[e]
      repeat'(first|(refine gR ?_;first|refine Aj rfl (by exact tt0) ?_|(refine gC ?_;first|refine B5 (nmL []) [] [100,101,102] (hgi) (gk rfl) rfl rfl (by(repeat'(first|exact .nil|refine .cons ?_ ?_|exact .w (.c (.ptr rfl)) rfl|exact .r (.of0 (.c .d))))<;>fail) (by(repeat'(first|exact tt0|refine⟨⟨_,rfl,?_⟩,?_⟩|exact .Bh rfl rfl|exact .Bc rfl Ai|refine .box ?_|exact .nil|refine .cons ?_ ?_|exact .d|exact .row rfl rfl))<;>fail) rfl rfl rfl (by rfl) rfl (by(simp only[AZ,wfL,AH,wfs,Ae,Ad];rfl)) rfl rfl rfl (by(simp only[F2,List.map_cons,List.map_nil,Blk.ren,C.ren,Bw,B0,BZ,gW,D8,nmL,Nat.reduceBEq,Bool.or_false,Bool.or_true,Bool.false_or,Bool.true_or,cond_true,cond_false,Nat.reduceMul,Nat.reduceAdd])<;>rfl) (by(simp only[AV.ren,AV.Ik,List.map_cons,List.map_nil,C.ren,gW,D8,nmL,Nat.reduceBEq,Bool.or_false,Bool.or_true,Bool.false_or,Bool.true_or,cond_true,cond_false,Nat.reduceMul,Nat.reduceAdd])<;>rfl) rfl ?_)|(refine gN ?_;first|refine Ak (gk rfl) rfl rfl ?_)|refine Az rfl (by assumption) ?_)|(refine gO ?_;first|refine C7 ?_|refine Ap (by kernel_rfl) ?_)|(refine gT ?_;first|refine BX ?_|refine L8 ?_)|refine BB ?_|refine Be ?_|refine Cp ?_|(show VC _ (.cond _ _ _) _ _;first|refine Ah rfl ?_|refine Ag rfl ?_|refine At rfl (by assumption) ?_)|refine IN ?_|refine Ex ?_)
      refine An (Am (l:=[]) (b:=[(9100,.pin 100 (r 100)),(9101,.pin 101 (r 101)),(100,.box [.d (.int .i64 slot),.d (.int .i64 turns),.d nv,.d (lds loads),.d (sis sil),.row 102 arr.length]),(101,.box (Wk.cs ⟨Hr slot w.nd w.up.data,w.node,w.ac,w.bc,w.rs,w.up⟩)),(102,.row 62 3 (rowOf Ar.enc arr))]) (fun n=>n) ?_ ?_ rfl (by(simp only[wfL,wfs,Ae,Ad];rfl))) (Ds Ab .nil rfl (by repeat'(first|exact tt0|refine⟨rfl,?_⟩)))
      all_goals repeat'(first|exact tt0|refine⟨⟨_,rfl,?_⟩,?_⟩|exact .Bh rfl rfl|exact .pin rfl|exact .Bc rfl Ai|refine .box ?_|exact .nil|refine .cons ?_ ?_|exact .d|exact .row rfl rfl|fail)
    ·have d4:decide ((w.up.data.size:Int)≠3)=true:=Aed (by omega);rw[hno (by unfold Ol;rw[Aee h4];simp)]
     repeat'(first|refine sB ?_|refine Aj rfl (by exact tt0) ?_|(refine gN ?_;first|refine Ak (gk rfl) rfl rfl ?_)|refine Az rfl (by assumption) ?_|refine Ap (by kernel_rfl) ?_|(refine gD ?_;first|refine Ah rfl ?_|refine At rfl (by assumption) ?_)|fail)
     refine An (Am (l:=[]) (b:=[(9100,.pin 100 (r 100)),(9101,.pin 101 (r 101)),(100,.box [.d (.int .i64 slot),.d (.int .i64 turns),.d nv,.d (lds loads),.d (sis sil),.row 102 arr.length]),(101,.box (Wk.cs w)),(102,.row 62 3 (rowOf Ar.enc arr))]) (fun n=>n) ?_ ?_ rfl (by(simp only[wfL,wfs,Ae,Ad];rfl))) (Ds Ab .nil rfl (by repeat'(first|exact tt0|refine⟨rfl,?_⟩)))
     all_goals repeat'(first|exact tt0|refine⟨⟨_,rfl,?_⟩,?_⟩|exact .Bh rfl rfl|exact .pin rfl|exact .Bc rfl Ai|refine .box ?_|exact .nil|refine .cons ?_ ?_|exact .d|exact .row rfl rfl|fail)
   ·have d3:decide (w.up.target≠w.node)=true:=Aed h3;rw[hno (by unfold Ol;rw[Aee h3];simp)]
    repeat'(first|refine sB ?_|refine Aj rfl (by exact tt0) ?_|(refine gN ?_;first|refine Ak (gk rfl) rfl rfl ?_)|refine Az rfl (by assumption) ?_|refine Ap (by kernel_rfl) ?_|(refine gD ?_;first|refine Ah rfl ?_)|fail)
    refine An (Am (l:=[]) (b:=[(9100,.pin 100 (r 100)),(9101,.pin 101 (r 101)),(100,.box [.d (.int .i64 slot),.d (.int .i64 turns),.d nv,.d (lds loads),.d (sis sil),.row 102 arr.length]),(101,.box (Wk.cs w)),(102,.row 62 3 (rowOf Ar.enc arr))]) (fun n=>n) ?_ ?_ rfl (by(simp only[wfL,wfs,Ae,Ad];rfl))) (Ds Ab .nil rfl (by repeat'(first|exact tt0|refine⟨rfl,?_⟩)))
    all_goals repeat'(first|exact tt0|refine⟨⟨_,rfl,?_⟩,?_⟩|exact .Bh rfl rfl|exact .pin rfl|exact .Bc rfl Ai|refine .box ?_|exact .nil|refine .cons ?_ ?_|exact .d|exact .row rfl rfl|fail)
  ·have d2:decide (w.up.B1≠4)=true:=Aed h2;rw[hno (by unfold Ol;rw[Aee h2];simp)]
   repeat'(first|refine sB ?_|refine Aj rfl (by exact tt0) ?_|(refine gN ?_;first|refine Ak (gk rfl) rfl rfl ?_)|refine Az rfl (by assumption) ?_|refine Ap (by kernel_rfl) ?_|(refine gD ?_;first|refine Ah rfl ?_)|fail)
   refine An (Am (l:=[]) (b:=[(9100,.pin 100 (r 100)),(9101,.pin 101 (r 101)),(100,.box [.d (.int .i64 slot),.d (.int .i64 turns),.d nv,.d (lds loads),.d (sis sil),.row 102 arr.length]),(101,.box (Wk.cs w)),(102,.row 62 3 (rowOf Ar.enc arr))]) (fun n=>n) ?_ ?_ rfl (by(simp only[wfL,wfs,Ae,Ad];rfl))) (Ds Ab .nil rfl (by repeat'(first|exact tt0|refine⟨rfl,?_⟩)))
   all_goals repeat'(first|exact tt0|refine⟨⟨_,rfl,?_⟩,?_⟩|exact .Bh rfl rfl|exact .pin rfl|exact .Bc rfl Ai|refine .box ?_|exact .nil|refine .cons ?_ ?_|exact .d|exact .row rfl rfl|fail)
end Go.Proofs.M
end
