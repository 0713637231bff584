/-
  Functions' results, and laws on them. No condition.
-/
import Derived.Test.YtdlcbilgemnomaaGreatSxMap
set_option linter.unusedSimpArgs false
set_option linter.unusedVariables false
set_option maxRecDepth 4000
set_option maxHeartbeats 16000000
open Go.Proofs.Tryz
namespace Go.Proofs.M
open Go Go.Sx Go.RowKit Go.Proofs Go.Proofs.T Go.Proofs.Q
attribute [local irreducible] VR VC thenQ blockQ retL VX
theorem V9 (v1 v2:Value):FnS Tryz.prog 129 [GU v1,GU v2] [] (.fnc 174 [.ptr 2 0,.ptr 3 0]) [(2,.box [.d (.raw v1)]),(3,.box [.d (.raw v2)])]:=by
 refine Ao func129 ntmps129 results129 fun E hS=>?_
 repeat'(first|refine Ad ?_|fail)
 exact⟨Ae,[.fnc 174 [.ptr 2 0,.ptr 3 0]],.tmp rfl rfl .nil,rfl,fun p hp=>by
  simp only[AjO,AjB,or_false] at hp;rcases hp with rfl|rfl<;>rfl⟩
theorem FW.grow {w w':World} {b o:Nat} {x:D} (h:FW w b o x) (hb:Below w.heap.size w w'):FW w' b o x:=by
 obtain⟨⟨v,h1,h2⟩,hlt⟩:=h;exact⟨⟨v,(World.cell?_of_block (hb.block b hlt)).trans h1,DT.Bo (fun c hc=>⟨AjV hc hb.size,hb.block c hc⟩) h2⟩,AjV hlt hb.size⟩
theorem SX (v1 v2:Value) (h1:v1.oneCell'=true) (h2:v2.oneCell'=true) (w:World):
  Calls Tryz.prog 129 #[v1,v2] w fun e w'=>∃v,e=.returned v/\∃b1 b2,v=.func (.func 174) #[] #[pvo b1 0,pvo b2 0]/\FW w' b1 0 (.raw v1)/\FW w' b2 0 (.raw v2)/\Below w.heap.size w w':=by
 have h:=(V9 v1 v2).2 w (fun _=>⟨0,0,true⟩) (fun _=>False) (fun _=>False) [v1,v2] (.cons ⟨rfl,h1⟩ (.cons ⟨rfl,h2⟩ .nil)) (DW (fun b hb=>hb.elim));refine Calls.mono h fun e w' hh=>?_
 obtain⟨v,ρ,Im,rfl,hm,⟨us,rfl,hus⟩,_⟩:=hh;refine⟨_,rfl,?_⟩;cases hus with
 |cons g1 hus=>
  cases hus with
  |cons g2 hus=>
   cases hus;have e1:=g1;have e2:=g2;simp only[Cf] at e1 e2;subst e1;subst e2;obtain⟨hn2,us2,T2,hh2,ha2⟩:=hm.bk 2 _ rfl;obtain⟨hn3,us3,T3,hh3,ha3⟩:=hm.bk 3 _ rfl;obtain⟨hl2,_⟩:=hm.own 2 _ rfl rfl hn2;obtain⟨hl3,_⟩:=hm.own 3 _ rfl rfl hn3;cases ha2 with
   |cons hv2 ha2=>
    cases ha2;cases ha3 with
    |cons hv3 ha3=>
     cases ha3;have hv2:=hv2.1;have hv3:=hv3.1;subst hv2;subst hv3;exact⟨_,_,rfl,⟨⟨_,by simp[World.cell?,hh2],⟨rfl,h1⟩⟩,hl2⟩,⟨⟨_,by simp[World.cell?,hh3],⟨rfl,h2⟩⟩,hl3⟩,hm.Bo.below (fun b h=>h)⟩
theorem Iy {ρ:Nat->RI} {w:World} {Im:Nat->Prop} {nm:Nat} {cs:List C} (h:BQ ρ w Im nm (.box cs)) (hI:∀b,Im b->b<w.heap.size) {k:Nat} {x:D} (hk:cs[k]?=some (.d x)):FW w (ρ nm).blk k x:=by
 obtain⟨hnil,us,T,hh,ha⟩:=h;obtain⟨v,hv,hr⟩:=ha.get hk;refine⟨⟨v,by simp[World.cell?,hh,hv],DT.Bo (fun b hb=>⟨hI b hb,rfl⟩) hr⟩,?_⟩;have:=(Array.getElem?_eq_some_iff.1 hh).1;exact this
structure Acp (w:World) (slot:Int) (sil:List Si) (X:List Wk) (R:Nat->RI) (bs rb ro cap:Nat):Prop where
 s0:FW w bs 0 (.int .i64 slot)
 s2:FW w bs 2 (.raw (.slice (some ⟨rb,ro,none⟩) X.length cap))
 s4:FW w bs 4 (sis sil)
 hr:∀j,j<X.length->FW w rb (ro+j) (.raw (pvo (R j).blk 0))
 hB:∀j,j<X.length->∃ca ta,w.heap[(R j).blk]?=some (.cells ca ta (0,0))
 hc:∀j,j<X.length->FW w (R j).blk 22 (.int .i64 (X.getD j default).node)/\FW w (R j).blk 23 (.int .i64 (X.getD j default).ac.kind)/\FW w (R j).blk 24 (.int .i64 (X.getD j default).ac.offset)
 inj:∀j k,j<X.length->k<X.length->(R j).blk=(R k).blk->j=k
theorem Acp.grow {w w':World} {slot:Int} {sil:List Si} {X:List Wk} {R:Nat->RI} {bs rb ro cap:Nat} (h:Acp w slot sil X R bs rb ro cap) (hb:Below w.heap.size w w'):Acp w' slot sil X R bs rb ro cap:=
 ⟨h.s0.grow hb,h.s2.grow hb,h.s4.grow hb,fun j hj=>(h.hr j hj).grow hb,fun j hj=>by
  obtain⟨ca,ta,h1⟩:=h.hB j hj;exact⟨ca,ta,(hb.block _ (h.hc j hj).1.2).trans h1⟩,fun j hj=>⟨(h.hc j hj).1.grow hb,(h.hc j hj).2.1.grow hb,(h.hc j hj).2.2.grow hb⟩,h.inj⟩
theorem WW {E:Env Tryz.prog 65} {σ:St} {a:Act} {w:World} {ρ:Nat->RI} {Im:Nat->Prop} {slot turns:Int} {R:Nat->RI} {loads:List Ld} {sil:List Si} {len:Nat} {X:List Wk} (hs:A8 E σ a w ρ Im) (h0:0<X.length)
  (hb:σ (.b 100)=some (.k (.box (sbC slot turns R X.length loads sil len)))) (hx:∀j,j<X.length->σ (.b (8000+j))=some (.k (.box (X.getD j default).cs))) (hp:∀j,j<X.length->σ (.b (20000+j))=some (.k (.pin (8000+j) (R j)))):
  ∃rb ro cap,Acp w slot sil X R (ρ 100).blk rb ro cap:=by
 have hI:∀b,Im b->b<w.heap.size:=fun b hb=>(hs.im b hb).2.1
 have hbk:=hs.bk 100 _ hb;have hR:∀j,j<X.length->ρ (8000+j)=R j:=fun j hj=>hs.bk (20000+j) _ (hp j hj)
 obtain⟨⟨v2,c2,r2⟩,l2⟩:=Iy hbk hI (k:=2) (x:=Ee R X.length) rfl;obtain⟨hmax,ad,cap,rfl,hcap,hel⟩:=r2;obtain⟨rb,ro,rfl,hrb,hcell⟩:=hel h0;refine⟨rb,ro,cap,Iy hbk hI rfl,⟨⟨_,c2,rfl,rfl⟩,l2⟩,Iy hbk hI rfl,fun j hj=>?_,fun j hj=>?_,fun j hj=>?_,fun j k hj hk e=>?_⟩
 ·obtain⟨u,hu,hru⟩:=hcell j hj 0 (by omega);rw[Nat.mul_one,AkX] at hu;exact⟨⟨u,hu,hru⟩,hrb⟩
 ·obtain⟨hnil,us,T,hh,_⟩:=hs.bk (8000+j) _ (hx j hj);rw[hR j hj] at hh;exact⟨_,_,hh⟩
 ·have hbj:=hs.bk (8000+j) _ (hx j hj);have e:=hR j hj;refine⟨?_,?_,?_⟩
  ·rw[<-e];exact Iy hbj hI rfl
  ·rw[<-e];exact Iy hbj hI rfl
  ·rw[<-e];exact Iy hbj hI rfl
 ·have n1:=(hs.bk (8000+j) _ (hx j hj)).1;have n2:=(hs.bk (8000+k) _ (hx k hk)).1;by_cases hjk:j=k
  ·exact hjk
  ·exact absurd (by rw[hR j hj,hR k hk];exact e) (hs.inj _ _ _ _ (hx j hj) (hx k hk) rfl rfl n1 n2 (by omega))
end Go.Proofs.M
namespace Go.Proofs.M
open Go Go.Sx Go.RowKit Go.Proofs Go.Proofs.T Go.Proofs.Q
theorem Aa8 {P:Program} {N:Nat} {E:Env P N} {Q:Exit->St->Prop} {e:Exit} {σ:St} (h:retL E Q e σ):∃σ',Q e σ':=by
 obtain⟨σ',_,h2⟩:=h;exact⟨σ',h2⟩
attribute [local irreducible] VR VC thenQ blockQ retL VX
theorem UE {σ:St} {t n:Nat} {x:Option Sx.Item}:σ.Cl [(.s t,x)] (.b n)=σ (.b n):=rfl
theorem HA {σ:St} {t n:Nat} {x:Option Sx.Item}:σ.upd (.s t) x (.b n)=σ (.b n):=rfl
theorem AaD.E7 {σ:St} {L:List Nat}:∀xs:List (List C),Bh (Bh (CW σ (fun n=>n) L)) xs xs
 |[]=>.nil
 |c :: cs=>.cons (CWs.E7 c) (AaD.E7 cs)
theorem OU {σ:St} {t n:Nat} {x:AV}:σ.set t x (.b n)=σ (.b n):=rfl
theorem E5 {σ:St} {n m:Nat} {x:Option Sx.Item} (h:m≠n):σ.upd (.b m) x (.b n)=σ (.b n):=St.At _ _ (by intro e;injection e with e;exact h e)
theorem YZ {FX:List (Nat×Blk)} {R:Nat->RI} {X:List (List C)} {n:Nat} (hn:n<8000) (h:As FX n=none):As (Ef FX R X) n=none:=by
 cases h1:As (Ef FX R X) n with
 |none=>rfl
 |some b=>
  rcases B1 h1 with h2|⟨i,_,rfl,_⟩|⟨j,_,rfl,_⟩
  ·rw[h] at h2;cases h2
  ·omega
  ·omega
theorem Y0 {l:List (Nat×AV)} {FX:List (Nat×Blk)} {R:Nat->RI} {X:List (List C)} {n:Nat} {b:Blk} (h:As FX n=some b):AN l (Ef FX R X) (.b n)=some (.k b):=by
 show(As (Ef FX R X) n).map Item.k=_;rw[B7 h];rfl
abbrev lsS (l:List (Nat×AV)) (FX:List (Nat×Blk)) (R:Nat->RI) (X:List Wk):St:=AN l (Ef FX R (X.map Wk.cs))
theorem Mw {l:List (Nat×AV)} {FX:List (Nat×Blk)} {R:Nat->RI} {X:List Wk} (hf:FV FX) (hX:X.length<=64) {j:Nat} (hj:j<X.length):lsS l FX R X (.b (8000+j))=some (.k (.box (X.getD j default).cs)):=by
 rw[lsS,Q6 hf (by rw[AjK];omega) (by rw[AjK];exact hj),Js hj]
theorem Of {l:List (Nat×AV)} {FX:List (Nat×Blk)} {R:Nat->RI} {X:List Wk} (hf:FV FX) (hX:X.length<=64) {j:Nat} (hj:j<X.length):lsS l FX R X (.b (20000+j))=some (.k (.pin (8000+j) (R j))):=by
 rw[lsS,Oe hf (by rw[AjK];omega) (by rw[AjK];exact hj)]
theorem Hl {P:Program} {N:Nat} {E:Env P N} {σ:St} {l:List (Nat×AV)} {FX:List (Nat×Blk)} {R:Nat->RI} {X:List Wk} (hf:FV FX) (hX:X.length<=64) (hl:WY σ (fun n=>n) [] l) (hF:Gz σ (fun n=>n) [] FX)
  (hx:∀j,j<X.length->σ (.b (8000+j))=some (.k (.box (X.getD j default).cs))) (hp:∀j,j<X.length->σ (.b (20000+j))=some (.k (.pin (8000+j) (R j))))
  (h1:∀p∈l,p.2.shallow=true/\∀n∈p.2.names,(As (Ef FX R (X.map Wk.cs)) n).isSome=true) (h2:∀p∈FX,∀n∈p.2.names,(As (Ef FX R (X.map Wk.cs)) n).isSome=true):Le E σ (lsS l FX R X):=by
 refine AeC hl hF (fun j hj=>?_) (fun j hj=>?_) (Pg hf (by rw[AjK];omega) h1 h2 (Hu X))
 ·rw[AjK] at hj;refine⟨_,hx j hj,?_⟩;rw[Js hj];exact CWs.E7 _
 ·rw[AjK] at hj;exact hp j hj
theorem Oh {FX:List (Nat×Blk)} {R:Nat->RI} {X:List Wk} (hf:FV FX) (hX:X.length<=64) {j:Nat} (hj:j<X.length):(As (Ef FX R (X.map Wk.cs)) (8000+j)).isSome=true:=by
 rw[G3 hf (by rw[AjK];omega) (by rw[AjK];exact hj)];rfl
def Aaz (R:Nat->RI) (L:List Nat):List Nat:=L.map fun j=>(R j).blk
theorem Po {E:Env Tryz.prog 65} {slot turns:Int} {R:Nat->RI} {loads:List Ld} {sil:List Si} {arr:List Ar} {r0 r2:RI} {X:List Wk} {i:Nat} (hX:X.length<=64) (hi:i<X.length) {y:Code} {rs:List ResultVar} {res:AV} {bo:List (Nat×Blk)} {af1 af2:Array Edge} {p0 p1 p2 p3 p4:String} {a0 a1 a4:Array Edge}
  (h:VC E y (retL E (Gk Tryz.prog rs res bo)) (lsS [(0,.c (.ptr 100 0)),(1,.c (.ptr (8000+i) 0)),(4,.c (.row 15 (Aaz R (BH sil slot X i)).length))] ((15,.row 136 1 (rowOf Ot (Aaz R (BH sil slot X i)))) :: (fxL slot turns R X.length loads sil arr r0 r2)) R X)):
  VC E (.region 1 #[⟨some 12,.move (.tmp 0),131,p0,a0,none⟩,⟨some 13,.move (.tmp 1),136,p1,a1,none⟩,⟨some 14,.call ⟨.value (.func 129),#[.tmp 12,.tmp 13],#[131,136]⟩,196,p2,af1,none⟩,
   ⟨some 15,.call ⟨.value (.func 128),#[.tmp 14],#[196]⟩,133,p3,af2,none⟩,⟨some 4,.assign (.tmp 15),133,p4,a4,none⟩] false) (thenQ (VC E y (retL E (Gk Tryz.prog rs res bo))) (retL E (Gk Tryz.prog rs res bo))) (lsS [(0,.c (.ptr 100 0)),(1,.c (.ptr (8000+i) 0))] (fxL slot turns R X.length loads sil arr r0 r2) R X):=by
 have hf:FV (fxL slot turns R X.length loads sil arr r0 r2):=G9;refine VC.mk fun a w hs=>?_
 have hno:¬LetsOut (fun e a' w'=>∃σ',Sat E σ' a' w'/\thenQ (VC E y (retL E (Gk Tryz.prog rs res bo))) (retL E (Gk Tryz.prog rs res bo)) e σ'):=by
  rintro⟨a,w,σ',_,h⟩;obtain⟨σ2,h2⟩:=Aa8 (Ql h);rcases h2.1 with h|h<;>cases h
 refine wpIn_wide (n:=3).1 (wpIn_region_lit ?_);refine Hg 2 ?_;refine Mz hno ?_ _ _ hs
 repeat'(first|refine HX ?_|fail)
 rintro a2 w2 ⟨ρ,Im,hs2⟩;have hB:∀n b,lsS [(0,.c (.ptr 100 0)),(1,.c (.ptr (8000+i) 0))] (fxL slot turns R X.length loads sil arr r0 r2) R X (.b n)=some (.k b)->((lsS [(0,.c (.ptr 100 0)),(1,.c (.ptr (8000+i) 0))] (fxL slot turns R X.length loads sil arr r0 r2) R X).Cl [(.s 12,some (.v (.c (.ptr 100 0))))]).Cl [(.s 13,some (.v (.c (.ptr (8000+i) 0))))] (.b n)=some (.k b):=fun n b h=>by
  rw[UE,UE];exact h
 obtain⟨rb,ro,cap,HF⟩:=WW (slot:=slot) (turns:=turns) (R:=R) (loads:=loads) (sil:=sil) (len:=arr.length) (X:=X) hs2 (by omega) (hB 100 _ (Y0 rfl)) (fun j hj=>hB _ _ (Mw hf hX hj)) (fun j hj=>hB _ _ (Of hf hX hj));have hr12:a2.eval (.tmp 12)=pvo (ρ 100).blk 0:=hs2.fr 12 (.c (.ptr 100 0)) rfl;have hr13:a2.eval (.tmp 13)=pvo (ρ (8000+i)).blk 0:=hs2.fr 13 (.c (.ptr (8000+i) 0)) rfl;have hRi:ρ (8000+i)=R i:=hs2.bk (20000+i) _ (hB _ _ (Of hf hX hi));rw[hRi] at hr13;have hrun:=Vz (P:=Tryz.prog) (w:=w2) (a:=a2) (d:=14) (g:=129) (xs:=[.tmp 12,.tmp 13]) (ats:=#[131,136]) (ty:=196) (pos:=p2) (af:=af1) (gd:=none) (enters_of func129 (by kernel_rfl) rfl);simp only[Akq,Aku,hr12,hr13] at hrun;refine Un hrun (SX (pvo (ρ 100).blk 0) (pvo (R i).blk 0) rfl rfl w2) ?_;rintro v14 w3 ⟨b1,b2,rfl,hc1,hc2,hb3⟩;have HF3:=HF.grow hb3;have hs3:=(hs2.grow hb3).put (d:=14) (by decide) (x:=GU (.func (.func 174) #[] #[pvo b1 0,pvo b2 0])) (v:=.func (.func 174) #[] #[pvo b1 0,pvo b2 0]) ⟨rfl,rfl⟩ (fun nm hn=>by cases hn);have hr14:(a2.put (some 14) (.func (.func 174) #[] #[pvo b1 0,pvo b2 0])).eval (.tmp 14)=.func (.func 174) #[] #[pvo b1 0,pvo b2 0]:=(hs3.fr 14 (GU _) rfl).1;have hrun:=Vz (P:=Tryz.prog) (w:=w3) (a:=a2.put (some 14) (.func (.func 174) #[] #[pvo b1 0,pvo b2 0])) (d:=15) (g:=128) (xs:=[.tmp 14]) (ats:=#[196]) (ty:=133) (pos:=p3) (af:=af2) (gd:=none) (enters_of func128 (by kernel_rfl) rfl);simp only[Akq,Aku,hr14] at hrun;have hseq:=Qr (w:=w3) (n:=X.length) (i:=i) (B:=fun j=>(R j).blk) (X:=X) (sil:=sil) (slot:=slot) (b1:=b1) (b2:=b2) (bs:=(ρ 100).blk) (rb:=rb) (ro:=ro) (cap:=cap) rfl hi (by omega) hc1 hc2 HF3.s0 HF3.s2 HF3.s4 HF3.hr HF3.hB HF3.hc HF3.inj;refine Un hrun (Ui (own:=fun _=>False) (fun h=>h) (fun h=>h) (enters_of func174 (by kernel_rfl) rfl) (N:=X.length+1) (by omega) hseq) ?_;rintro v15 w4 ⟨xs,rfl,hrow,hb4⟩;obtain⟨r,hv15,hr,_,hbk⟩:=QA hrow;have hs4:=hs3.Ajn hb4 (nm:=15) (by
  show(As (Ef (fxL slot turns R X.length loads sil arr r0 r2) R (X.map Wk.cs)) 15).map Item.k=none;rw[YZ (by decide) rfl];rfl) r hr (hbk ρ Im 15) (fun m=>by
  have:=Bi (enc:=Ot) (l:=(BH sil slot X i).map fun j=>(R j).blk) (T:=136) (sz:=1);cases hm:(Blk.row 136 1 (rowOf Ot ((BH sil slot X i).map fun j=>(R j).blk))).mentions m with
  |false=>rfl
  |true=>have h2:=Blk.Bf hm;rw[this] at h2;cases h2)
 have hs5:=hs4.put (d:=15) (by decide) (x:=.c (.row 15 ((BH sil slot X i).map fun j=>(R j).blk).length)) (v:=v15) (by
  show v15=if(E2 ρ 15 r 15).isNil then _ else _
  rw[show E2 ρ 15 r 15=r by simp[E2]];exact hv15) (fun nm hn=>by
   have:15=nm:=by simpa [AV.mentions,AV.A3,C.mentions] using hn
   subst this;rw[St.AM];simp)
 refine Hg 1 ?_;refine Mz hno ?_ _ _ ⟨_,_,hs5⟩
 repeat'(first|refine HX ?_|fail)
 refine Aav (σ':=lsS [(0,.c (.ptr 100 0)),(1,.c (.ptr (8000+i) 0)),(4,.c (.row 15 (Aaz R (BH sil slot X i)).length))] ((15,.row 136 1 (rowOf Ot (Aaz R (BH sil slot X i)))) :: (fxL slot turns R X.length loads sil arr r0 r2)) R X) ?_ ?_
 ·refine Hl ?_ hX ⟨⟨_,rfl,.c (.ptr rfl)⟩,⟨_,rfl,.c (.ptr rfl)⟩,⟨_,rfl,.c (.row rfl rfl)⟩,tt0⟩ ⟨⟨_,rfl,.row (AaD.E7 _)⟩,⟨_,rfl,.box (CWs.E7 _)⟩,⟨_,rfl,.row (AaD.E7 _)⟩,⟨_,rfl,.pin rfl⟩,⟨_,rfl,.pin rfl⟩,tt0⟩ (fun j hj=>?_) (fun j hj=>?_) ?_ ?_
  ·intro p hp;rcases AjO.1 hp with rfl|hp
   ·simp
   ·exact hf p hp
  ·rw[UE,HA,E5 (by omega)];exact Mw (l:=[]) hf hX hj
  ·rw[UE,HA,E5 (by omega)];exact Of (l:=[]) hf hX hj
  ·have hli:=Oh (FX:=(15,.row 136 1 (rowOf Ot (Aaz R (BH sil slot X i)))) :: (fxL slot turns R X.length loads sil arr r0 r2)) (R:=R) (by
    intro p hp;rcases AjO.1 hp with rfl|hp
    ·simp
    ·exact hf p hp) hX hi
   intro p hp;simp only[AjO,AjB,or_false] at hp;rcases hp with rfl|rfl|rfl<;>refine⟨rfl,fun n hn=>?_⟩<;>simp only[AV.names,AV.CE,C.names,AjO,AjB,or_false] at hn<;>subst hn<;>first|rfl|exact hli
  ·intro p hp;simp only[fxL,AjO,AjB,or_false] at hp;rcases hp with rfl|rfl|rfl|rfl|rfl<;>intro n hn
   ·rw[Bi] at hn;cases hn
   ·simp only[Blk.names,List.flatMap_cons,List.flatMap_nil,C.names,Akp,AjQ,AjO,AjB,or_false] at hn;subst hn;rfl
   ·rw[Bi] at hn;cases hn
   ·simp only[Blk.names,AjO,AjB,or_false] at hn;subst hn;rfl
   ·simp only[Blk.names,AjO,AjB,or_false] at hn;subst hn;rfl
 intro a6 w6 hs6;exact⟨_,hs6,O8 h⟩
end Go.Proofs.M
namespace Go.Proofs.M
open Go Go.Sx Go.RowKit Go.Proofs Go.Proofs.T Go.Proofs.Q
attribute [local irreducible] VR VC thenQ blockQ retL VX
theorem Ek {slot turns:Int} {R:Nat->RI} {n:Nat} {loads:List Ld} {sil:List Si} {arr:List Ar} {r0 r2:RI} {Y:List (List C)}:∀p∈fxL slot turns R n loads sil arr r0 r2,∀m∈p.2.names,(As (Ef (fxL slot turns R n loads sil arr r0 r2) R Y) m).isSome=true:=by
 intro p hp;simp only[fxL,AjO,AjB,or_false] at hp;rcases hp with rfl|rfl|rfl|rfl<;>intro n hn
 ·simp only[Blk.names,List.flatMap_cons,List.flatMap_nil,C.names,Akp,AjQ,AjO,AjB,or_false] at hn;subst hn;rfl
 ·rw[Bi] at hn;cases hn
 ·simp only[Blk.names,AjO,AjB,or_false] at hn;subst hn;rfl
 ·simp only[Blk.names,AjO,AjB,or_false] at hn;subst hn;rfl
theorem Ae8 {slot turns:Int} {R:Nat->RI} {loads:List Ld} {sil:List Si} {arr:List Ar} {r0 r2:RI} {X:List Wk} {i:Nat} (hX:X.length<=64) (hi:i<X.length):Bj [.c (.ptr 100 0),.c (.ptr (8000+i) 0)] (Ef (fxL slot turns R X.length loads sil arr r0 r2) R (X.map Wk.cs))=true:=by
 simp only[Bj,AjE,AjL];refine⟨fun x hx=>?_,Od G9 (by rw[AjK];omega) Ek (Hu X)⟩;simp only[AjO,AjB,or_false] at hx;rcases hx with rfl|rfl<;>refine⟨rfl,fun n hn=>?_⟩<;>simp only[AV.names,AV.CE,C.names,AjO,AjB,or_false] at hn<;>subst hn
 ·rfl
 ·exact Oh G9 hX hi
theorem Ae9 {P:Program} {N:Nat} {E:Env P N} {x y:AV} {m:List (Nat×Blk)}:D9 [x,y] m=AN [(0,x),(1,y)] m:=by
 funext k
 cases k with
 |b n=>rfl
 |s t=>
  rcases t with _|_|t
  ·rfl
  ·rfl
  ·show(([x,y]:List AV)[t+2]?).map Sx.Item.v=(As [(0,x),(1,y)] (t+2)).map Sx.Item.v;have:As [(0,x),(1,y)] (t+2)=none:=Ii fun p hp=>by
    simp only[AjO,AjB,or_false] at hp;rcases hp with rfl|rfl<;>simp
   rw[this];simp
theorem Agp {sil:List Si} {slot:Int} {X:List Wk} {i j:Nat} (h:j∈BH sil slot X i):j<X.length/\j≠i:=by
 unfold BH at h;obtain⟨h1,h2⟩:=Aj3.1 h;simp only[AjE,Ajw] at h2;exact⟨Aj2.1 h1,h2.1.1.1⟩
theorem HQ {σ:St} {slot turns:Int} {R:Nat->RI} {n:Nat} {loads:List Ld} {sil:List Si} {arr:List Ar} {r0 r2:RI}
  (h0:σ (.b 100)=some (.k (.box (sbC slot turns R n loads sil arr.length)))) (h1:σ (.b 102)=some (.k (.row 62 3 (rowOf Ar.enc arr)))) (h2:σ (.b 9100)=some (.k (.pin 100 r0))) (h3:σ (.b 9102)=some (.k (.pin 102 r2))):
  Gz σ (fun n=>n) [] (fxL slot turns R n loads sil arr r0 r2):=⟨⟨_,h0,.box (CWs.E7 _)⟩,⟨_,h1,.row (AaD.E7 _)⟩,⟨_,h2,.pin rfl⟩,⟨_,h3,.pin rfl⟩,tt0⟩
theorem Ad1 {FX:List (Nat×Blk)} {R:Nat->RI} {X:List Wk} {i:Nat} (hf:FV FX) (hX:X.length<=64) (hi:i<X.length) (h0:(As (Ef FX R (X.map Wk.cs)) 100).isSome=true):∀p∈[(0,AV.c (.ptr 100 0)),(1,AV.c (.ptr (8000+i) 0))],p.2.shallow=true/\∀n∈p.2.names,(As (Ef FX R (X.map Wk.cs)) n).isSome=true:=by
 intro p hp;simp only[AjO,AjB,or_false] at hp;rcases hp with rfl|rfl<;>refine⟨rfl,fun n hn=>?_⟩<;>simp only[AV.names,AV.CE,C.names,AjO,AjB,or_false] at hn<;>subst hn
 ·exact h0
 ·exact Oh hf hX hi
theorem UL {FX:List (Nat×Blk)} {R:Nat->RI} {X:List Wk} {i j:Nat} (hf:FV FX) (hX:X.length<=64) (hi:i<X.length) (hj:j<X.length) (h0:(As (Ef FX R (X.map Wk.cs)) 100).isSome=true):∀p∈[(0,AV.c (.ptr 100 0)),(1,AV.c (.ptr (8000+i) 0)),(5,AV.c (.ptr (8000+j) 0))],p.2.shallow=true/\∀n∈p.2.names,(As (Ef FX R (X.map Wk.cs)) n).isSome=true:=by
 intro p hp;simp only[AjO,AjB,or_false] at hp;rcases hp with rfl|rfl|rfl<;>refine⟨rfl,fun n hn=>?_⟩<;>simp only[AV.names,AV.CE,C.names,AjO,AjB,or_false] at hn<;>subst hn
 ·exact h0
 ·exact Oh hf hX hi
 ·exact Oh hf hX hj
theorem L7 {P:Program} {l:List (Nat×AV)} {slot turns:Int} {R:Nat->RI} {n:Nat} {loads:List Ld} {sil:List Si} {arr:List Ar} {r0 r2:RI} {X:List Wk} {e:Exit} (he:e=.normal\/e=.ret) (hX:X.length<=64):Gk P [] (.tup []) (Ef (fxL slot turns R n loads sil arr r0 r2) R (X.map Wk.cs)) e (lsS l (fxL slot turns R n loads sil arr r0 r2) R X):=by
 refine⟨he,[],.nil,rfl,fun p hp=>?_⟩;rcases Vg hp with hp|⟨i,hi,rfl⟩|⟨j,hj,rfl⟩
 ·simp only[fxL,AjO,AjB,or_false] at hp;rcases hp with rfl|rfl|rfl|rfl<;>rfl
 ·exact Q6 G9 (by rw[AjK];omega) hi
 ·exact Oe G9 (by rw[AjK];omega) hj
def Agn (w:Wk) (r:Rs):Wk:=⟨w.nd,w.node,w.ac,w.bc,r,w.up⟩
theorem XS {σ:St} {n:Nat} {x:Option Sx.Item}:σ.upd (.b n) x (.b n)=x:=St.AM _ _ _
theorem UO {X:List Wk} {i:Nat} {A:Wk} (hi:i<X.length):(X.set i A).getD i default=A:=by
 simp[Ajt,hi]
theorem JB {X:List Wk} {i k:Nat} {A:Wk} (h:i≠k):(X.set i A).getD k default=X.getD k default:=by
 simp[Ajt,AjR h]
theorem RA {FX:List (Nat×Blk)} {b:Blk} (hf:FV FX):FV ((15,b) :: FX):=by
 intro p hp;rcases AjO.1 hp with rfl|hp
 ·simp
 ·exact hf p hp
theorem TF {slot turns:Int} {R:Nat->RI} {loads:List Ld} {sil:List Si} {arr:List Ar} {r0 r2:RI} {X:List Wk} {i:Nat} (hX:X.length<=64) (hi:i<X.length):
  FnS Tryz.prog 90 [.c (.ptr 100 0),.c (.ptr (8000+i) 0)] (Ef (fxL slot turns R X.length loads sil arr r0 r2) R (X.map Wk.cs)) (.tup []) (Ef (fxL slot turns R X.length loads sil arr r0 r2) R ((Cv sil slot X i).map Wk.cs)):=by
 have hf:FV (fxL slot turns R X.length loads sil arr r0 r2):=G9;refine FnS.Bv (enters_of func90 (by kernel_rfl) rfl) func90 rfl ntmps90 results90 rfl (Ae8 hX hi) rfl fun E=>?_
 refine AG ?_;rw[Ae9 (E:=E)];show VC E _ _ (lsS _ (fxL slot turns R X.length loads sil arr r0 r2) R X)
 repeat'(first|refine AJ ?_|refine Hx (gk rfl) rfl (Mw (l:=[]) hf hX hi) rfl rfl rfl ?_|refine sq 1 rfl ?_|(refine Av ?_ ?_<;>intro h hq)|fail)
 ·rw[show Cv sil slot X i=X from Akc hq];refine Ag (σ':=lsS [] (fxL slot turns R X.length loads sil arr r0 r2) R X) ?_ (L7 Ae hX);exact Hl hf hX trivial (HQ rfl rfl rfl rfl) (fun j hj=>Mw (l:=[]) hf hX hj) (fun j hj=>Of (l:=[]) hf hX hj) (fun p hp=>by cases hp) Ek
 refine VC.le (σ':=lsS [(0,.c (.ptr 100 0)),(1,.c (.ptr (8000+i) 0))] (fxL slot turns R X.length loads sil arr r0 r2) R X) ?_ ?_
 ·exact Hl hf hX ⟨⟨_,rfl,.c (.ptr rfl)⟩,⟨_,rfl,.c (.ptr rfl)⟩,tt0⟩ (HQ rfl rfl rfl rfl) (fun j hj=>Mw (l:=[]) hf hX hj) (fun j hj=>Of (l:=[]) hf hX hj) (Ad1 hf hX hi rfl) Ek
 refine Dw (Po hX hi ?_);have hse:Cv sil slot X i=match BH sil slot X i with|[j]=>DY sil slot X i j|_=>X:=Akb (fun h=>h hq)
 have hl1:∀{l},(Aaz R l).length=l.length:=fun{l}=>by simp[Aaz]
 repeat'(first|refine AJ ?_|refine AQ ?_|refine sq 3 rfl ?_|(refine Av ?_ ?_<;>intro h hq)|fail)
 ·have h1:Cv sil slot X i=X:=by
   rw[hse]
   split
   ·rename_i j hj;exact absurd (by rw[hl1,hj];rfl) hq
   ·rfl
  rw[h1];refine Ag (σ':=lsS [] (fxL slot turns R X.length loads sil arr r0 r2) R X) ?_ (L7 Ae hX);exact Hl hf hX trivial (HQ rfl rfl rfl rfl) (fun j hj=>Mw (l:=[]) (FX:=(15,.row 136 1 (rowOf Ot (Aaz R (BH sil slot X i)))) :: (fxL slot turns R X.length loads sil arr r0 r2)) (RA hf) hX hj) (fun j hj=>Of (l:=[]) (FX:=(15,.row 136 1 (rowOf Ot (Aaz R (BH sil slot X i)))) :: (fxL slot turns R X.length loads sil arr r0 r2)) (RA hf) hX hj) (fun p hp=>by cases hp) Ek
 rw[hl1] at hq;obtain⟨j,hj⟩:=List.length_eq_one_iff.1 (show(BH sil slot X i).length=1 by omega);have h1:Cv sil slot X i=DY sil slot X i j:=by rw[hse,hj]
 obtain⟨hjl,hji⟩:=Agp (show j∈BH sil slot X i by rw[hj];simp);rw[h1];clear h1 hse hl1 hq h;rw[hj,show Aaz R [j]=[(R j).blk] from rfl]
 repeat'(first|refine AJ ?_|refine sq 4 rfl ?_|fail)
 refine EN (m:=0) (gk rfl) rfl rfl rfl rfl rfl rfl (by simp) (by simp[rowOf]) rfl ?_
 repeat'(first|refine HX ?_|fail)
 refine VC.le (Rf (s:=5) (nm:=8000+j) (pn:=20000+j) (r:=R j) (off:=0) rfl (Of (l:=[]) (FX:=(15,.row 136 1 (rowOf Ot [(R j).blk])) :: (fxL slot turns R X.length loads sil arr r0 r2)) (RA hf) hX hjl)) ?_;refine VC.le (σ':=lsS [(0,.c (.ptr 100 0)),(1,.c (.ptr (8000+i) 0)),(5,.c (.ptr (8000+j) 0))] (fxL slot turns R X.length loads sil arr r0 r2) R X) ?_ ?_
 ·exact Hl hf hX ⟨⟨_,rfl,.c (.ptr rfl)⟩,⟨_,rfl,.c (.ptr rfl)⟩,⟨_,rfl,.c (.ptr rfl)⟩,tt0⟩ (HQ rfl rfl rfl rfl) (fun k hk=>Mw (l:=[]) (FX:=(15,.row 136 1 (rowOf Ot [(R j).blk])) :: (fxL slot turns R X.length loads sil arr r0 r2)) (RA hf) hX hk) (fun k hk=>Of (l:=[]) (FX:=(15,.row 136 1 (rowOf Ot [(R j).blk])) :: (fxL slot turns R X.length loads sil arr r0 r2)) (RA hf) hX hk) (UL hf hX hi hjl rfl) Ek
 obtain⟨A,hAe⟩:∃A:Wk,A=Agn (X.getD i default) (ZE (PV (X.getD j default).ac)):=⟨_,rfl⟩;have hX1:(X.set i A).length<=64:=by rw[AjJ];exact hX
 repeat'(first|refine AJ ?_|refine I0 (gk rfl) rfl (Mw (l:=[]) hf hX hjl) rfl rfl rfl ?_|refine OE (gk rfl) rfl rfl (Mw (l:=[]) hf hX hi) rfl rfl rfl ?_|refine sq 5 rfl ?_|fail)
 refine VC.le (σ':=lsS [(0,.c (.ptr 100 0)),(1,.c (.ptr (8000+i) 0)),(5,.c (.ptr (8000+j) 0))] (fxL slot turns R X.length loads sil arr r0 r2) R (X.set i A)) ?_ ?_
 ·refine Hl hf hX1 ⟨⟨_,rfl,.c (.ptr rfl)⟩,⟨_,rfl,.c (.ptr rfl)⟩,⟨_,rfl,.c (.ptr rfl)⟩,tt0⟩ (HQ (E5 (by omega)) (E5 (by omega)) (E5 (by omega)) (E5 (by omega))) (fun k hk=>?_) (fun k hk=>?_) (UL hf hX1 (by rw[AjJ];exact hi) (by rw[AjJ];exact hjl) rfl) Ek
  ·rw[AjJ] at hk;by_cases e:i=k
   ·subst e;rw[XS,UO hi,hAe];rfl
   ·rw[E5 (by omega),JB e];exact Mw (l:=[]) hf hX hk
  ·rw[AjJ] at hk;rw[E5 (by omega)];exact Of (l:=[]) hf hX hk
 have hxi:lsS [] (fxL slot turns R X.length loads sil arr r0 r2) R (X.set i A) (.b (8000+i))=some (.k (.box A.cs)):=by
  have:=Mw (l:=[]) hf (R:=R) hX1 (j:=i) (by rw[AjJ];exact hi)
  rwa [UO hi] at this
 have hxj:lsS [] (fxL slot turns R X.length loads sil arr r0 r2) R (X.set i A) (.b (8000+j))=some (.k (.box (X.getD j default).cs)):=by
  have:=Mw (l:=[]) hf (R:=R) hX1 (j:=j) (by rw[AjJ];exact hjl)
  rwa [JB (Ne.symm hji)] at this
 have hAn:A.node=(X.getD i default).node:=by rw[hAe];rfl
 have hhe:=Ir sil A.node (X.getD j default).node slot;have hno:¬(A.node=(X.getD j default).ac.target/\Ei sil A.node (X.getD j default).node slot=true)->DY sil slot X i j=X.set i A:=by
  intro hn;unfold DY;rw[Akb (fun hc=>hn (by rw[hAn];exact⟨hc.1.symm,hc.2⟩)),hAe];rfl
 have hend:Le E (lsS [] (fxL slot turns R X.length loads sil arr r0 r2) R (X.set i A)) (lsS [] (fxL slot turns R X.length loads sil arr r0 r2) R (X.set i A)):=fun _ _ h=>h
 by_cases t1:(X.getD j default).ac.target=A.node
 ·have g1:=Aju t1;cases t2:Ei sil A.node (X.getD j default).node slot with
  |true=>
   obtain⟨B,hBe⟩:∃B:Wk,B=Agn (X.getD j default) {(X.getD j default).rs with AH:=true}:=⟨_,rfl⟩;have h1:DY sil slot X i j=(X.set i A).set j B:=by
    unfold DY;rw[Akc ⟨t1.trans hAn,by rw[<-hAn];exact t2⟩,hAe,hBe];rfl
   have hX2:((X.set i A).set j B).length<=64:=by rw[AjJ];exact hX1
   rw[h1]
   repeat'(first|refine Ad ?_|refine Hx (gk rfl) rfl (hxi) rfl rfl rfl ?_|refine Hx (gk rfl) rfl (hxj) rfl rfl rfl ?_|refine OE (gk rfl) rfl rfl (hxj) rfl rfl rfl ?_|refine Aa (hhe) ?_|fail)
   refine Ag (σ':=lsS [] (fxL slot turns R X.length loads sil arr r0 r2) R ((X.set i A).set j B)) ?_ (L7 Dy hX2);refine Hl hf hX2 trivial (HQ (E5 (by omega)) (E5 (by omega)) (E5 (by omega)) (E5 (by omega))) (fun k hk=>?_) (fun k hk=>?_) (fun p hp=>by cases hp) Ek
   ·rw[AjJ] at hk;by_cases e:j=k
    ·subst e;rw[XS,UO hk,hBe];rfl
    ·rw[E5 (by omega),JB e];exact Mw (l:=[]) hf hX1 hk
   ·rw[AjJ] at hk;rw[E5 (by omega)];exact Of (l:=[]) hf hX1 hk
  |false=>
   rw[hno (fun hc=>by rw[t2] at hc;exact absurd hc.2 (by decide))]
   repeat'(first|refine Ad ?_|refine Hx (gk rfl) rfl (hxi) rfl rfl rfl ?_|refine Hx (gk rfl) rfl (hxj) rfl rfl rfl ?_|refine Aa (hhe) ?_|fail)
   refine Ag (σ':=lsS [] (fxL slot turns R X.length loads sil arr r0 r2) R (X.set i A)) ?_ (L7 Dy hX1);exact Hl hf hX1 trivial (HQ rfl rfl rfl rfl) (fun k hk=>Mw (l:=[]) hf hX1 hk) (fun k hk=>Of (l:=[]) hf hX1 hk) (fun p hp=>by cases hp) Ek
 ·have g1:=Ajv t1;rw[hno (fun hc=>t1 hc.1.symm)]
  repeat'(first|refine Ad ?_|refine Hx (gk rfl) rfl (hxi) rfl rfl rfl ?_|refine Hx (gk rfl) rfl (hxj) rfl rfl rfl ?_|fail)
  refine Ag (σ':=lsS [] (fxL slot turns R X.length loads sil arr r0 r2) R (X.set i A)) ?_ (L7 Dy hX1);exact Hl hf hX1 trivial (HQ rfl rfl rfl rfl) (fun k hk=>Mw (l:=[]) hf hX1 hk) (fun k hk=>Of (l:=[]) hf hX1 hk) (fun p hp=>by cases hp) Ek
def fxS (slot turns:Int) (R:Nat->RI) (n:Nat) (loads:List Ld) (sil:List Si) (arr:List Ar) (r0:RI):List (Nat×Blk):=
 [(100,.box (sbC slot turns R n loads sil arr.length)),(102,.row 62 3 (rowOf Ar.enc arr)),(9100,.pin 100 r0)]
structure SB (l:List (Nat×AV)) (FY:List (Nat×Blk)):Prop where
 free:∀p∈FY,p.1<90\/(200<=p.1/\p.1<8000)
 nb:∀p∈FY,p.2.names=[]
 ns:∀p∈l,p.2.shallow=true/\∀n∈p.2.names,n=100\/n∈FY.map (·.1)
section
variable {slot turns:Int} {R:Nat->RI} {nn:Nat} {loads:List Ld} {sil:List Si} {arr:List Ar} {r0:RI} {l:List (Nat×AV)} {FY:List (Nat×Blk)} {X:List Wk}
theorem Zz {p:Nat×Blk} (hp:p∈fxS slot turns R nn loads sil arr r0++FY):p=(100,.box (sbC slot turns R nn loads sil arr.length))\/p=(102,.row 62 3 (rowOf Ar.enc arr))\/p=(9100,.pin 100 r0)\/p∈FY:=by
 rcases List.mem_append.1 hp with hp|hp
 ·simp only[fxS,AjO,AjB,or_false] at hp;rcases hp with rfl|rfl|rfl<;>simp
 ·exact .inr (.inr (.inr hp))
theorem JT (h:SB l FY):FV (fxS slot turns R nn loads sil arr r0++FY):=by
 intro p hp;rcases Zz hp with rfl|rfl|rfl|hp
 ·simp
 ·simp
 ·simp
 ·have:=h.free p hp;omega
theorem Ga (h:SB l FY) {n:Nat} {b:Blk} (hb:As (fxS slot turns R nn loads sil arr r0++FY) n=some b):(n=100/\b=.box (sbC slot turns R nn loads sil arr.length))\/(n=102/\b=.row 62 3 (rowOf Ar.enc arr))\/(n=9100/\b=.pin 100 r0)\/(As FY n=some b/\(n<90\/(200<=n/\n<8000))):=by
 rw[Ci] at hb;cases h1:As (fxS slot turns R nn loads sil arr r0) n with
 |some x=>
  rw[h1] at hb;injection hb with hb;subst hb
  have:=AP h1;simp only[fxS,AjO,AjB,or_false,AkR] at this;rcases this with⟨rfl,rfl⟩|⟨rfl,rfl⟩|⟨rfl,rfl⟩
  ·exact .inl ⟨rfl,rfl⟩
  ·exact .inr (.inl ⟨rfl,rfl⟩)
  ·exact .inr (.inr (.inl ⟨rfl,rfl⟩))
 |none=>
  rw[h1,Option.none_or] at hb;exact .inr (.inr (.inr ⟨hb,h.free _ (AP hb)⟩))
theorem ZA (h:SB l FY) {n:Nat} {b:Blk} (hb:As FY n=some b):As (fxS slot turns R nn loads sil arr r0++FY) n=some b:=by
 have:=h.free _ (AP hb);rw[Ci,Ii (l:=fxS slot turns R nn loads sil arr r0) (fun p hp=>?_),hb];rfl;simp only[fxS,AjO,AjB,or_false] at hp;rcases hp with rfl|rfl|rfl<;>(show(_:Nat)≠n;simp only at this ⊢;omega)
theorem T0 (h:SB l FY) (hX:X.length<=64):wfL l (Ef (fxS slot turns R nn loads sil arr r0++FY) R (X.map Wk.cs))=true:=by
 have hX2:(X.map Wk.cs).length<=100:=by rw[AjK];omega
 refine(Pg (JT h) hX2 (fun p hp=>⟨(h.ns p hp).1,fun n hn=>?_⟩) (fun p hp n hn=>?_) (Hu X))
 ·rcases (h.ns p hp).2 n hn with rfl|hm
  ·rfl
  ·obtain⟨q,hq,rfl⟩:=Aj5.1 hm;cases hl:As FY q.1 with
   |some b=>rw[B7 (ZA h hl)];rfl
   |none=>
    exfalso;have:∀{L:List (Nat×Blk)},q∈L->As L q.1≠none:=by
     intro L
     induction L with
     |nil=>intro h;cases h
     |cons p L ih=>
      intro hm;unfold As;cases hb:Nat.beq p.1 q.1 with
      |true=>simp
      |false=>
       rcases AjO.1 hm with rfl|hm
       ·rw[Nat.beq_refl] at hb;cases hb
       ·exact ih hm
    exact this hq hl
 ·rcases Zz hp with rfl|rfl|rfl|hp
  ·simp only[Blk.names,List.flatMap_cons,List.flatMap_nil,C.names,Akp,AjQ,AjO,AjB,or_false] at hn;subst hn;rfl
  ·rw[Bi] at hn;cases hn
  ·simp only[Blk.names,AjO,AjB,or_false] at hn;subst hn;rfl
  ·rw[h.nb p hp] at hn;cases hn
theorem Ry (h:SB l FY) (hX:X.length<=64):∀k it,lsS l (fxS slot turns R nn loads sil arr r0++FY) R X k=some it->∀nm,it.mentions nm=true->lsS l (fxS slot turns R nn loads sil arr r0++FY) R X (.b nm)≠none:=
 I7 (T0 h hX)
def Aaw (g:FuncId) (slot turns:Int) (R:Nat->RI) (nn:Nat) (loads:List Ld) (sil:List Si) (r0:RI) (l:List (Nat×AV)) (FY:List (Nat×Blk)) (i:Nat) (A B:List Ar×List Wk):Prop:=
 ∀{E:Env Tryz.prog 116} {a:Act} {w:World} {ρ:Nat->RI} {Im:Nat->Prop},A8 E (lsS l (fxS slot turns R nn loads sil A.1 r0++FY) R A.2) a w ρ Im->
  Calls Tryz.prog g #[pvo r0.blk 0,pvo (R i).blk 0] w fun e w'=>∃v,e=.returned v/\(∃us:List Value,v=.tuple us.toArray/\us=[])/\∃ρ2 Im2,A8 E (lsS l (fxS slot turns R nn loads sil B.1 r0++FY) R B.2) a w' ρ2 Im2
end
theorem NI (sil:List Si) (slot:Int) (X:List Wk) (i:Nat):(Cv sil slot X i).length=X.length:=by
 unfold Cv
 split
 ·rfl
 ·split
  ·unfold DY;split<;>simp
  ·rfl
section
variable {slot turns:Int} {R:Nat->RI} {loads:List Ld} {sil:List Si} {arr:List Ar} {r0 r2:RI} {l:List (Nat×AV)} {FY:List (Nat×Blk)} {X:List Wk} {i:Nat}
theorem Lw {nn:Nat} {n:Nat} {b:Blk} (hb:As (fxL slot turns R nn loads sil arr r0 r2) n=some b):(n=100/\b=.box (sbC slot turns R nn loads sil arr.length))\/(n=102/\b=.row 62 3 (rowOf Ar.enc arr))\/(n=9100/\b=.pin 100 r0)\/(n=9102/\b=.pin 102 r2):=by
 have:=AP hb;simp only[fxL,AjO,AjB,or_false,AkR] at this;rcases this with⟨rfl,rfl⟩|⟨rfl,rfl⟩|⟨rfl,rfl⟩|⟨rfl,rfl⟩<;>simp
theorem JN {l:List (Nat×AV)} {FX:List (Nat×Blk)} {n:Nat} {b:Blk} (h:As (Ef FX R (X.map Wk.cs)) n=some b):lsS l FX R X (.b n)=some (.k b):=by
 show(As _ n).map Sx.Item.k=_;rw[h];rfl
theorem Pm {l:List (Nat×AV)} {FX:List (Nat×Blk)} {n:Nat} {it:Sx.Item} (h:lsS l FX R X (.b n)=some it):∃b,As (Ef FX R (X.map Wk.cs)) n=some b/\it=.k b:=by
 have h:(As (Ef FX R (X.map Wk.cs)) n).map Sx.Item.k=some it:=h;rw[Akh] at h;obtain⟨y,h1,h2⟩:=h;exact⟨y,h1,h2.symm⟩
theorem Dk {σ:St} {bout:List (Nat×Blk)} {n:Nat} {b:Blk} (h:As bout n=some b):WA σ bout (.b n)=some (.k b):=by
 unfold WA;simp only[h]
theorem Ic {σ:St} {bout:List (Nat×Blk)} {n:Nat} (h:As bout n=none):WA σ bout (.b n)=σ (.b n):=by
 unfold WA;simp only[h]
theorem RZ (hO:SB l FY) (hX:X.length<=64) (hi:i<X.length):Aaw 90 slot turns R X.length loads sil r0 l FY i (arr,X) (arr,Cv sil slot X i):=by
 intro E a w ρ Im hs;have hf:FV (fxS slot turns R X.length loads sil arr r0++FY):=JT hO;have hfl:FV (fxL slot turns R X.length loads sil arr r0 (ρ 102)):=G9;have hXl:(X.map Wk.cs).length<=100:=by rw[AjK];omega
 have hlen:=NI sil slot X i;have hYl:((Cv sil slot X i).map Wk.cs).length<=100:=by rw[AjK];omega
 have e100:lsS l (fxS slot turns R X.length loads sil arr r0++FY) R X (.b 100)=some (.k (.box (sbC slot turns R X.length loads sil arr.length))):=JN (B7 rfl);have e102:lsS l (fxS slot turns R X.length loads sil arr r0++FY) R X (.b 102)=some (.k (.row 62 3 (rowOf Ar.enc arr))):=JN (B7 rfl);have e9100:lsS l (fxS slot turns R X.length loads sil arr r0++FY) R X (.b 9100)=some (.k (.pin 100 r0)):=JN (B7 rfl);have efam:∀j,j<X.length->lsS l (fxS slot turns R X.length loads sil arr r0++FY) R X (.b (8000+j))=some (.k (.box (X.getD j default).cs)):=fun j hj=>Mw hf hX hj
 have epin:∀j,j<X.length->lsS l (fxS slot turns R X.length loads sil arr r0++FY) R X (.b (20000+j))=some (.k (.pin (8000+j) (R j))):=fun j hj=>Of hf hX hj
 have e9102:lsS l (fxS slot turns R X.length loads sil arr r0++FY) R X (.b 9102)=none:=by
  cases h:As (Ef (fxS slot turns R X.length loads sil arr r0++FY) R (X.map Wk.cs)) 9102 with
  |none=>show(As _ 9102).map Sx.Item.k=_;rw[h];rfl
  |some b=>
   exfalso;rcases B1 h with h1|⟨j,hj,e,_⟩|⟨j,hj,e,_⟩
   ·rcases Ga hO h1 with⟨e,_⟩|⟨e,_⟩|⟨e,_⟩|⟨_,e⟩<;>omega
   ·omega
   ·omega
 have hs1:=hs.Ahd (nm:=102) (pn:=9102) (by rw[e102];simp) e9102;have hr0:ρ 100=r0:=hs.bk 9100 _ e9100;have hRi:ρ (8000+i)=R i:=hs.bk (20000+i) _ (epin i hi);have hold:∀n it,n≠9102->lsS l (fxS slot turns R X.length loads sil arr r0++FY) R X (.b n)=some it->((lsS l (fxS slot turns R X.length loads sil arr r0++FY) R X).upd (.b 9102) (some (.k (.pin 102 (ρ 102))))) (.b n)=some it:=fun n it hn h=>by
  rw[E5 (Ne.symm hn)];exact h
 have hc:=hs1.AgX (TF (slot:=slot) (turns:=turns) (R:=R) (loads:=loads) (sil:=sil) (arr:=arr) (r0:=r0) (r2:=ρ 102) hX hi) (vs:=[pvo r0.blk 0,pvo (R i).blk 0])
  (fun n b hb=>by
    rcases B1 hb with h1|⟨j,hj,rfl,rfl⟩|⟨j,hj,rfl,rfl⟩
    ·rcases Lw h1 with⟨rfl,rfl⟩|⟨rfl,rfl⟩|⟨rfl,rfl⟩|⟨rfl,rfl⟩
     ·exact hold _ _ (by omega) e100
     ·exact hold _ _ (by omega) e102
     ·exact hold _ _ (by omega) e9100
     ·exact XS
    ·rw[AjK] at hj;rw[Js hj];exact hold _ _ (by omega) (efam j hj)
    ·rw[AjK] at hj;exact hold _ _ (by omega) (epin j hj))
  (.cons (by show pvo r0.blk 0=pvo (ρ 100).blk 0;rw[hr0]) (.cons (by show pvo (R i).blk 0=pvo (ρ (8000+i)).blk 0;rw[hRi]) .nil))
  (fun _=>false) (fun n h=>by cases h) (fun n h=>by cases h)
  (fun n b hb hl _=>by
    rcases B1 hb with h1|⟨j,hj,rfl,rfl⟩|⟨j,hj,rfl,rfl⟩
    ·rcases Lw h1 with⟨rfl,rfl⟩|⟨rfl,rfl⟩|⟨rfl,rfl⟩|⟨rfl,rfl⟩
     ·exact⟨9100,r0,B7 rfl,B7 rfl⟩
     ·exact⟨9102,ρ 102,B7 rfl,B7 rfl⟩
     ·cases hl
     ·cases hl
    ·rw[AjK] at hj;exact⟨20000+j,R j,Ig hfl hXl (by rw[AjK];exact hj),Ig hfl hYl (by rw[AjK,hlen];exact hj)⟩
    ·cases hl)
  (fun n b hb=>by
    rcases B1 hb with h1|⟨j,hj,rfl,rfl⟩|⟨j,hj,rfl,rfl⟩
    ·exact⟨_,B7 h1⟩
    ·rw[AjK] at hj;exact⟨_,G3 hfl hYl (by rw[AjK,hlen];exact hj)⟩
    ·rw[AjK] at hj;exact⟨_,Ig hfl hYl (by rw[AjK,hlen];exact hj)⟩)
  (fun n b hb=>by
    rcases B1 hb with h1|⟨j,hj,rfl,rfl⟩|⟨j,hj,rfl,rfl⟩
    ·refine⟨b,B7 h1,fun h=>h,fun m hm=>?_⟩;have hm:=Blk.Bf hm;rcases Lw h1 with⟨rfl,rfl⟩|⟨rfl,rfl⟩|⟨rfl,rfl⟩|⟨rfl,rfl⟩
     ·simp only[Blk.names,List.flatMap_cons,List.flatMap_nil,C.names,Akp,AjQ,AjO,AjB,or_false] at hm;subst hm;exact⟨_,B7 rfl,rfl⟩
     ·rw[Bi] at hm;cases hm
     ·simp only[Blk.names,AjO,AjB,or_false] at hm;subst hm;exact⟨_,B7 rfl,rfl⟩
     ·simp only[Blk.names,AjO,AjB,or_false] at hm;subst hm;exact⟨_,B7 rfl,rfl⟩
    ·rw[AjK,hlen] at hj;refine⟨_,G3 hfl hXl (by rw[AjK];exact hj),fun _=>rfl,fun m hm=>?_⟩;have hm:=Blk.Bf hm;rw[Js (by rw[hlen];exact hj)] at hm;exfalso;obtain⟨c,hc1,hc2⟩:=List.mem_flatMap.1 hm;rw[Jt _ c hc1] at hc2;cases hc2
    ·rw[AjK,hlen] at hj;refine⟨_,Ig hfl hXl (by rw[AjK];exact hj),fun h=>h,fun m hm=>?_⟩;have hm:m=8000+j:=by simpa [Blk.names] using Blk.Bf hm
     subst hm;exact⟨_,G3 hfl hXl (by rw[AjK];exact hj),rfl⟩)
  (τ:=WA ((lsS l (fxS slot turns R X.length loads sil arr r0++FY) R X).upd (.b 9102) (some (.k (.pin 102 (ρ 102))))) (Ef (fxL slot turns R X.length loads sil arr r0 (ρ 102)) R ((Cv sil slot X i).map Wk.cs))) (fun _=>rfl) (fun _=>rfl)
 refine hc.mono ?_;rintro e w' ⟨v,he,ht,ρ2,Im2,h2⟩;refine⟨v,he,ht,ρ2,Im2,h2.sub (fun k it hk=>?_) (Ry hO (by rw[hlen];exact hX))⟩;cases k with
 |s t=>exact hk
 |b n=>
  obtain⟨b,hb,rfl⟩:=Pm hk;rcases B1 hb with h1|⟨j,hj,rfl,rfl⟩|⟨j,hj,rfl,rfl⟩
  ·rcases Ga hO h1 with⟨rfl,rfl⟩|⟨rfl,rfl⟩|⟨rfl,rfl⟩|⟨h3,h4⟩
   ·exact Dk (B7 rfl)
   ·exact Dk (B7 rfl)
   ·exact Dk (B7 rfl)
   ·rw[Ic,E5 (by omega)]
    ·exact JN (B7 (ZA hO h3))
    ·cases h5:As (Ef (fxL slot turns R X.length loads sil arr r0 (ρ 102)) R ((Cv sil slot X i).map Wk.cs)) n with
     |none=>rfl
     |some b2=>
      exfalso;rcases B1 h5 with h6|⟨j,hj,rfl,rfl⟩|⟨j,hj,rfl,rfl⟩
      ·rcases Lw h6 with⟨rfl,_⟩|⟨rfl,_⟩|⟨rfl,_⟩|⟨rfl,_⟩<;>omega
      ·omega
      ·omega
  ·exact Dk (G3 hfl hYl hj)
  ·exact Dk (Ig hfl hYl hj)
end
end Go.Proofs.M
