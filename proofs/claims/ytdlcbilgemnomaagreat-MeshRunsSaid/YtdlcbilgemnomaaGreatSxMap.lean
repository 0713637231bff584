/-
  Functions' results, and laws on them. No condition.
-/
import Derived.Test.YtdlcbilgemnomaaGreatSxMao
set_option linter.unusedSimpArgs false
set_option linter.unusedVariables false
set_option maxRecDepth 4000
set_option maxHeartbeats 16000000
open Go.Proofs.Tryz
namespace Go.Proofs.M
open Go Go.Sx Go.Proofs Go.Proofs.T Go.Proofs.Q
attribute [local irreducible] VR VC thenQ blockQ retL
abbrev Lm (p:Si->Bool):List DV->DV->Prop:=fun ds r=>∃x:Si,ds=[.agg x.enc]/\r=.d (.bool (p x))
theorem AeI (l:List Si) (p:Si->Bool):Ak 85 [AD (sis l),.clo (Lm p)] (AI (oI (Ft l p))):=by
 refine Ao func85 ntmps85 results85 fun E hS=>?_
 refine Bz (t:=0) rfl fun hb=>?_
 repeat'(first|refine Af ?_|fail)
 refine Ax (ι:=Nat) (fun k=>AN [(0,AD (sis l)),(1,.clo (Lm p)),(7,AI l.length),(8,AI k)] []) (fun k=>k<=l.length/\∀i,i<k->p (l.getD i default)=false) (fun k=>l.length-k) 0 ⟨Ake _,fun i hi=>absurd hi (Aj9 _)⟩ ?_ ?_
 ·exact By ⟨rfl,rfl,rfl,rfl,tt0⟩ trivial rfl
 ·intro k hk
  repeat'(first|refine Af ?_|refine F4 (⟨_,rfl,rfl⟩) (gk rfl) rfl rfl rfl rfl ?_|(refine Av ?_ ?_<;>intro h hq)|fail)
  ·refine Aw Ae rfl ?_;rw[C2 hk.2 (by omega) h];rfl
  ·refine⟨k+1,⟨by omega,fun i hi=>?_⟩,by omega,By ⟨rfl,rfl,rfl,rfl,tt0⟩ trivial rfl⟩;by_cases hik:i<k
   ·exact hk.2 i hik
   ·have:i=k:=by omega
    subst this;exact h
  ·refine Aw Ae rfl ?_;have:k=l.length:=by omega
   subst this;rw[CF hk.2];rfl
theorem RO (l:List Si) (p:Si->Bool):Ak 52 [AD (sis l),.clo (Lm p)] (AB (l.any p)):=by
 refine Ao func52 ntmps52 results52 fun E hS=>?_
 repeat'(first|refine Ad ?_|refine AK [] (AeI l p) ?_|fail)
 all_goals exact Aq Ae rfl (EL _ _).symm
def Ahm (a b s:Int) (x:Si):Bool:=decide (x.src=a)&&decide (x.dst=b)&&decide (x.first<=s)&&decide (s<x.til)
theorem TS (x:Si) (a b s:Int):Ak 53 [siA x,.ep (fun _=>.int .i64 a) 1,.ep (fun _=>.int .i64 b) 1,.ep (fun _=>.int .i64 s) 1] (AB (Ahm a b s x)):=by
 refine Ao func53 ntmps53 results53 fun E hS=>?_
 repeat'(first|refine Ad ?_|(refine Av ?_ ?_<;>intro h hq)|fail)
 all_goals(refine Aq Ae rfl ?_;unfold Ahm;first|(simp_all;done)|(simp_all;omega))
theorem YI {cs:List C} {x:D} (h:cs=[.d x]):∀j,j<1->cs[0+j]?=some (.d ((fun _=>x) j)):=fun j hj=>by
 have:j=0:=by omega
 subst this;subst h;rfl
theorem WU {σ:St} {a b s:Int} {n1 n2 n3:Nat} {L:List Nat} (h1:n1∈L) (h2:n2∈L) (h3:n3∈L) (b1:σ (.b n1)=some (.k (.box [.d (.int .i64 a)]))) (b2:σ (.b n2)=some (.k (.box [.d (.int .i64 b)]))) (b3:σ (.b n3)=some (.k (.box [.d (.int .i64 s)]))):
  AR Tryz.prog σ L (.fnc 53 [.ptr n1 0,.ptr n2 0,.ptr n3 0]) (.clo (Lm (Ahm a b s))):=
 .fnc (eps:=[.ep (fun _=>.int .i64 a) 1,.ep (fun _=>.int .i64 b) 1,.ep (fun _=>.int .i64 s) 1]) (.cons (.ptr h1 b1 (YI rfl)) (.cons (.ptr h2 b2 (YI rfl)) (.cons (.ptr h3 b3 (YI rfl)) .nil))) (enters_of func53 (by kernel_rfl) rfl)
  (by rintro _ _ ⟨x,rfl,rfl⟩;exact⟨rfl,TS x a b s⟩)
theorem Ir (l:List Si) (a b s:Int):Ak 21 [AD (sis l),AI a,AI b,AI s] (AB (Ei l a b s)):=by
 refine Ao func21 ntmps21 results21 fun E hS=>?_
 repeat'(first|refine Ad ?_|refine Cd [5,6,7] (RO l (Ahm a b s)) (gk rfl) rfl (by(repeat'(first|exact .nil|refine .cons ?_ ?_|exact .of0 (.c .d)|exact(WU (by simp) (by simp) (by simp) rfl rfl rfl)))<;>fail) (by rfl) rfl (by rfl) rfl (by rfl) rfl ?_|fail)
 all_goals exact AO
end Go.Proofs.M
namespace Go.Proofs.M
open Go Go.Sx Go.RowKit Go.Proofs Go.Proofs.T Go.Proofs.Q
attribute [local irreducible] VR VC thenQ blockQ retL VX
abbrev yv (l:Nat):Value:=.func (.yield l) #[] #[]
abbrev GU (v:Value):AV:=.c (.d (.raw v))
def FW (w:World) (b o:Nat) (x:D):Prop:=(∃v,w.cell? ⟨b,o,none⟩=some v/\DT w (fun b=>b<w.heap.size) x v)/\b<w.heap.size
def TY (sil:List Si) (slot:Int) (X:List Wk) (i j:Nat):Bool:=
 decide (j≠i)&&decide ((X.getD j default).ac.kind=1)&&decide ((X.getD j default).ac.offset=(X.getD i default).ac.offset)&&Ei sil (X.getD j default).node (X.getD i default).node slot
def IF (sil:List Si) (slot:Int) (X:List Wk) (i k:Nat):List Nat:=(List.range k).filter (TY sil slot X i)
theorem NU (sil:List Si) (slot:Int) (X:List Wk) (i k:Nat):IF sil slot X i (k+1)=IF sil slot X i k++(if TY sil slot X i k=true then[k] else[]):=by
 unfold IF;rw[AkN,Akw]
 congr 1
 cases h:TY sil slot X i k<;>simp[h]
theorem Yc (sil:List Si) (slot:Int) (X:List Wk) (i k:Nat):(IF sil slot X i k).length<=k:=by
 have:=Aj4 (TY sil slot X i) (List.range k);rw[Ald] at this;exact this
abbrev stS (y b1 b2 rb ro n cap:Nat) (k:Nat):St:=AN [(0,GU (yv y)),(1,GU (pvo b1 0)),(2,GU (pvo b2 0)),(9,GU (.slice (some ⟨rb,ro,none⟩) n cap)),(10,AI n),(11,AI k)] []
abbrev stY (B:Nat->Nat) (y b1 b2 rb ro n cap:Nat) (k:Nat):St:=AN [(0,GU (yv y)),(1,GU (pvo b1 0)),(2,GU (pvo b2 0)),(9,GU (.slice (some ⟨rb,ro,none⟩) n cap)),(10,AI n),(11,AI k),(58,AB true),(59,GU (yv y)),(60,GU (pvo (B k) 0))] []
structure Afe (J:List Nat->World->Prop) (w W:World) (L:Nat->List Nat) (y b1 b2 rb ro n cap k:Nat) (a1:Act) (w1:World):Prop where
 kn:k<=n
 j:J (L k) w1
 old:Below w.heap.size w w1
 sz:W.heap.size<=w1.heap.size
 sat:Sat (⟨w1,fun b=>b<w.heap.size,fun _=>False⟩:Env Tryz.prog 65) (stS y b1 b2 rb ro n cap k) a1 w1
theorem VA {B:Nat} {w W1 W2:World} {p:Nat->Obj->Prop} (h:Below B w W1) (ht:HY p W1 W2) (hp:∀b o,p b o->B<=b) (hB:B<=W1.heap.size):Below B w W2:=h.trans (ht.below hB hp)
theorem Qr {w:World} {n i:Nat} {B:Nat->Nat} {X:List Wk} {sil:List Si} {slot:Int} {b1 b2 bs rb ro cap:Nat} (hX:X.length=n) (hi:i<n) (hn:n<=1000)
  (c1:FW w b1 0 (.raw (pvo bs 0))) (c2:FW w b2 0 (.raw (pvo (B i) 0))) (s0:FW w bs 0 (.int .i64 slot)) (s2:FW w bs 2 (.raw (.slice (some ⟨rb,ro,none⟩) n cap))) (s4:FW w bs 4 (sis sil))
  (hr:∀j,j<n->FW w rb (ro+j) (.raw (pvo (B j) 0))) (hB:∀j,j<n->∃ca ta,w.heap[B j]?=some (.cells ca ta (0,0)))
  (hc:∀j,j<n->FW w (B j) 22 (.int .i64 (X.getD j default).node)/\FW w (B j) 23 (.int .i64 (X.getD j default).ac.kind)/\FW w (B j) 24 (.int .i64 (X.getD j default).ac.offset)) (inj:∀j k,j<n->k<n->B j=B k->j=k):
  AhC (fun _=>False) Tryz.prog 174 #[pvo b1 0,pvo b2 0] (fun b:Nat=>#[pvo b 0]) (fun xs=>xs=(BH sil slot X i).map B) (n+1) w:=by
 intro y J W hW hJ hy h0;refine calls_of_wp func174 rfl ?_;have hcell:∀(W':World),Below w.heap.size w W'->w.heap.size<=W'.heap.size->∀{b o x},FW w b o x->Ahk (⟨W',fun b=>b<w.heap.size,fun _=>False⟩:Env Tryz.prog 65) b o x:=by
  intro W' hb' hsz b o x ⟨⟨v,h1,h2⟩,hlt⟩;exact⟨⟨v,(World.cell?_of_block (hb'.block b hlt)).trans h1,DT.Bo (fun b' h'=>⟨h',hb'.block b' h'⟩) h2⟩,by show b<W'.heap.size;omega,fun h=>h,fun b' h'=>⟨by show b'<W'.heap.size;have h':b'<w.heap.size:=h';omega,fun h=>h⟩⟩
 have hcells:∀(W':World),Below w.heap.size w W'->w.heap.size<=W'.heap.size->∀j,j<n->So (⟨W',fun b=>b<w.heap.size,fun _=>False⟩:Env Tryz.prog 65) (B j):=by
  intro W' hb' hsz j hj;obtain⟨ca,ta,h1⟩:=hB j hj;have hlt:=(hc j hj).1.2;exact⟨⟨ca,ta,(hb'.block _ hlt).trans h1⟩,by show B j<W'.heap.size;omega,fun h=>h⟩
 have hs0:=Aa4 (P:=Tryz.prog) (N:=65) (w:=W) (ρ:=fun _=>⟨0,0,false⟩) (Im:=fun b=>b<w.heap.size) (S0:=fun _=>False) (args:=[GU (yv y),GU (pvo b1 0),GU (pvo b2 0)]) (vs:=[yv y,pvo b1 0,pvo b2 0]) (nt:=65)
  (.cons ⟨rfl,rfl⟩ (.cons ⟨rfl,rfl⟩ (.cons ⟨rfl,rfl⟩ .nil))) rfl (Nat.le_of_ble_eq_true rfl) rfl (fun b hb=>by have:=hW.size;have hb:b<w.heap.size:=hb;omega)
 have hJK:∀{E:Env Tryz.prog 65} {σ:St} {s:List Nat} {w2 a3 w3},(E.w0=w2/\E.S0=fun _=>False)->J s w2->Below w.heap.size w w2->W.heap.size<=w2.heap.size->Sat E σ a3 w3->J s w3/\Below w.heap.size w w3/\W.heap.size<=w3.heap.size:=by
  rintro E σ s w2 a3 w3 ⟨e1,e2⟩ hj ho hz ⟨ρ,Im,hs3⟩;have hk:IL w2 (fun _=>False) w3:=by rw[<-e1,<-e2];exact hs3.Bo
  have hks:=hk.size;have hBs:=hW.size;have ht:HY (itP W.heap.size fun _=>False) w2 w3:=Qj hk (fun b e=>e.elim);exact⟨hJ _ _ _ hj ht,VA ho ht (fun b o h=>by have:=h.1;omega) (by omega),by omega⟩
 obtain⟨R,hR⟩:∃R,R=bodyPost Tryz.prog Tryz.f174 (fun e W'=>(∃v,e=.returned v)/\∃xs,xs=(BH sil slot X i).map B/\J xs W'):=⟨_,rfl⟩;rw[<-hR];have hno:¬LetsOut R:=by
  rintro⟨a,w,h⟩;rw[hR] at h;obtain⟨⟨v,hv⟩,_⟩:=h;cases hv
 have hend:∀{E:Env Tryz.prog 65} {σ:St} {e:Exit} {a:Act} {w1:World},(e=.normal\/e=.ret)->Sat E σ a w1->J ((BH sil slot X i).map B) w1->R e a w1:=by
  intro E σ e a w1 he ⟨ρ,Im,hs⟩ hj;obtain⟨v,hv,_⟩:=IJ.results hs (fn:=Tryz.f174) (rs:=[]) rfl .nil;rw[hR];rcases he with rfl|rfl
  ·exact⟨hs.defers,v,hv,⟨v,rfl⟩,_,rfl,hj⟩
  ·exact⟨hs.defers,v,hv,⟨v,rfl⟩,_,rfl,hj⟩
 have hc0:=@hcell W hW hW.size;refine VX.run (UC ?_) hs0
 repeat'(first|refine AJ ?_|refine Bc (gk rfl) rfl (hc0 c1) rfl rfl ?_|refine Bc (gk rfl) rfl (hc0 s2) rfl rfl ?_|refine Dv (gk rfl) rfl rfl ?_|refine Dg (gk rfl) rfl rfl rfl rfl rfl ?_|refine VY (gk rfl) rfl rfl rfl ?_|fail)
 refine VX.le (σ':=stS y b1 b2 rb ro n cap 0) ?_ ?_
 ·exact Al
 refine VX.mk fun a1 w1 hs1=>?_
 have hL0:Afe J w W (fun k=>(IF sil slot X i k).map B) y b1 b2 rb ro n cap 0 a1 w1:=by
  obtain⟨g1,g2,g3⟩:=hJK (s:=[]) ⟨rfl,rfl⟩ h0 hW (Akd _) hs1;exact⟨Ake _,g1,g2,g3,OX hs1 rfl (fun b hb=>by have:=hW.size;have hb:b<w.heap.size:=hb;omega)⟩
 clear hs1 hs0 h0 hc0;refine wp_block (wp_loop_ghost (fun m a1 w1=>∃k,m=n-k/\Afe J w W (fun k=>(IF sil slot X i k).map B) y b1 b2 rb ro n cap k a1 w1) n ?_ ?_)
 ·exact⟨0,by omega,hL0⟩
 rintro m a2 w2 ⟨k,rfl,H⟩;have hBsz:=hW.size;have ho2:=H.old;have hz2:=H.sz;have hc2:=@hcell w2 ho2 (by omega);have hcs2:=hcells w2 ho2 (by omega);by_cases hkn:k<n
 ·have hdd:=Cz k n;have hck:=hc k hkn;have hci:=hc i hi;refine VX.run (UC ?_) H.sat
  repeat'(first|refine AJ ?_|fail)
  refine UC ?_
  repeat'(first|(refine gT ?_;refine O8 ?_)|(show VC _ (.cond _ _ _) _ _;first|refine Cy ?_|refine HW ?_)|refine SM ?_)
  refine VX.mk fun a3 w3 hs3=>wp_seq (wp_block ?_)
  refine VX.run (UC ?_) hs3
  repeat'(first|refine AJ ?_|refine Bc (gk rfl) rfl (hc2 (hr k hkn)) rfl rfl ?_|refine Qd (gk rfl) rfl rfl rfl rfl rfl (by omega) rfl ?_|fail)
  refine VX.le (σ':=AN [(0,GU (yv y)),(1,GU (pvo b1 0)),(2,GU (pvo b2 0)),(5,GU (pvo (B k) 0)),(9,GU (.slice (some ⟨rb,ro,none⟩) n cap)),(10,AI n),(11,AI k)] []) ?_ ?_
  ·exact Al
  have hEq:B k=B i↔k=i:=⟨fun h=>inj _ _ hkn hi h,fun h=>by rw[h]⟩;have fin:∀{E:Env Tryz.prog 65} {w8:World} {a9:Act} {w9:World},(E.w0=w8/\E.S0=fun _=>False)->J ((IF sil slot X i (k+1)).map B) w8->Below w.heap.size w w8->W.heap.size<=w8.heap.size->Sat E (stS y b1 b2 rb ro n cap (k+1)) a9 w9->
    ∃m',m'<n-k/\∃k1,m'=n-k1/\Afe J w W (fun k=>(IF sil slot X i k).map B) y b1 b2 rb ro n cap k1 a9 w9:=by
   intro E w8 a9 w9 hE hj ho hz hs;obtain⟨g1,g2,g3⟩:=hJK hE hj ho hz hs;exact⟨n-(k+1),by omega,k+1,rfl,by omega,g1,g2,g3,OX hs rfl (fun b hb=>by have hb:b<w.heap.size:=hb;omega)⟩
  cases hb:TY sil slot X i k with
  |false=>
   have hsk:IF sil slot X i (k+1)=IF sil slot X i k:=by rw[NU,hb];simp
   refine VX.mk fun a4 w4 hs4=>?_
   refine VX.run (P3 ?_) hs4;have hj2:J ((IF sil slot X i (k+1)).map B) w2:=by rw[hsk];exact H.j
   have hh:=Ir sil (X.getD k default).node (X.getD i default).node slot;unfold TY at hb;by_cases e1:k=i
   ·have d1:(!decide (B k=B i))=false:=by rw[Aju (hEq.2 e1)];rfl
    repeat'(first|refine Ad ?_|refine Bc (gk rfl) rfl (hc2 c2) rfl rfl ?_|refine Hv (gk rfl) rfl rfl rfl rfl (hcs2 k hkn) (hcs2 i hi) rfl ?_|fail)
    refine Aav (σ':=stS y b1 b2 rb ro n cap k) ?_ ?_
    ·exact Al
    intro a5 w5 hs5;show Code.wp _ _ _ _ _;refine VX.run (P3 ?_) hs5
    repeat'(first|refine AJ ?_|fail)
    refine Aav (σ':=stS y b1 b2 rb ro n cap (k+1)) ?_ ?_
    ·exact Al
    intro a6 w6 hs6;exact fin ⟨rfl,rfl⟩ hj2 ho2 hz2 hs6
   ·have d1:(!decide (B k=B i))=true:=by rw[Ajv (fun h=>e1 (hEq.1 h))];rfl
    by_cases e2:(X.getD k default).ac.kind=1
    ·have d2:=Aju e2;by_cases e3:(X.getD k default).ac.offset=(X.getD i default).ac.offset
     ·have d3:=Aju e3;have e4:Ei sil (X.getD k default).node (X.getD i default).node slot=false:=by
       rw[Aju e1,d2,d3] at hb;simpa using hb
      rw[e4] at hh
      repeat'(first|refine Ad ?_|refine Bc (gk rfl) rfl (hc2 c1) rfl rfl ?_|refine Bc (gk rfl) rfl (hc2 c2) rfl rfl ?_|refine Bc (gk rfl) rfl (hc2 s0) rfl rfl ?_|refine Bc (gk rfl) rfl (hc2 s4) rfl rfl ?_|refine Bc (gk rfl) rfl (hc2 hck.1) rfl rfl ?_|refine Bc (gk rfl) rfl (hc2 hck.2.1) rfl rfl ?_|refine Bc (gk rfl) rfl (hc2 hck.2.2) rfl rfl ?_|refine Bc (gk rfl) rfl (hc2 hci.1) rfl rfl ?_|refine Bc (gk rfl) rfl (hc2 hci.2.2) rfl rfl ?_|refine Hv (gk rfl) rfl rfl rfl rfl (hcs2 k hkn) (hcs2 i hi) rfl ?_|refine Dv (gk rfl) rfl rfl ?_|refine Dg (gk rfl) rfl rfl rfl rfl rfl ?_|refine Aa (hh) ?_|fail)
      refine Aav (σ':=stS y b1 b2 rb ro n cap k) ?_ ?_
      ·exact Al
      intro a5 w5 hs5;show Code.wp _ _ _ _ _;refine VX.run (P3 ?_) hs5
      repeat'(first|refine AJ ?_|fail)
      refine Aav (σ':=stS y b1 b2 rb ro n cap (k+1)) ?_ ?_
      ·exact Al
      intro a6 w6 hs6;exact fin ⟨rfl,rfl⟩ hj2 ho2 hz2 hs6
     ·have d3:=Ajv e3
      repeat'(first|refine Ad ?_|refine Bc (gk rfl) rfl (hc2 c2) rfl rfl ?_|refine Bc (gk rfl) rfl (hc2 hck.2.1) rfl rfl ?_|refine Bc (gk rfl) rfl (hc2 hck.2.2) rfl rfl ?_|refine Bc (gk rfl) rfl (hc2 hci.2.2) rfl rfl ?_|refine Hv (gk rfl) rfl rfl rfl rfl (hcs2 k hkn) (hcs2 i hi) rfl ?_|refine Dv (gk rfl) rfl rfl ?_|refine Dg (gk rfl) rfl rfl rfl rfl rfl ?_|fail)
      refine Aav (σ':=stS y b1 b2 rb ro n cap k) ?_ ?_
      ·exact Al
      intro a5 w5 hs5;show Code.wp _ _ _ _ _;refine VX.run (P3 ?_) hs5
      repeat'(first|refine AJ ?_|fail)
      refine Aav (σ':=stS y b1 b2 rb ro n cap (k+1)) ?_ ?_
      ·exact Al
      intro a6 w6 hs6;exact fin ⟨rfl,rfl⟩ hj2 ho2 hz2 hs6
    ·have d2:=Ajv e2
     repeat'(first|refine Ad ?_|refine Bc (gk rfl) rfl (hc2 c2) rfl rfl ?_|refine Bc (gk rfl) rfl (hc2 hck.2.1) rfl rfl ?_|refine Hv (gk rfl) rfl rfl rfl rfl (hcs2 k hkn) (hcs2 i hi) rfl ?_|refine Dv (gk rfl) rfl rfl ?_|refine Dg (gk rfl) rfl rfl rfl rfl rfl ?_|fail)
     refine Aav (σ':=stS y b1 b2 rb ro n cap k) ?_ ?_
     ·exact Al
     intro a5 w5 hs5;show Code.wp _ _ _ _ _;refine VX.run (P3 ?_) hs5
     repeat'(first|refine AJ ?_|fail)
     refine Aav (σ':=stS y b1 b2 rb ro n cap (k+1)) ?_ ?_
     ·exact Al
     intro a6 w6 hs6;exact fin ⟨rfl,rfl⟩ hj2 ho2 hz2 hs6
  |true=>
   have hsk:IF sil slot X i (k+1)=IF sil slot X i k++[k]:=by rw[NU,hb];simp
   have hh:=Ir sil (X.getD k default).node (X.getD i default).node slot;unfold TY at hb;simp only[AjE,Ajw] at hb;obtain⟨⟨⟨e1,e2⟩,e3⟩,e4⟩:=hb;rw[e4] at hh;have d1:(!decide (B k=B i))=true:=by rw[Ajv (fun h=>e1 (hEq.1 h))];rfl
   have d2:=Aju e2;have d3:=Aju e3;refine VX.mk fun a4 w4 hs4=>wp_seq ?_
   refine wpIn_wide (n:=3).1 ?_;refine Xf 46 (by simp only[List.take_succ_cons,List.take_zero];rfl) (by simp only[Alg,Alb];rfl) (inferInstance:Aco Tryz.prog).out ?hno (by kernel_rfl) ?_ _ _ hs4
   case hno=>
    rintro⟨a,w,h⟩;exact hno ⟨a,w,h⟩
   repeat'(first|(refine gR ?_;first|(refine gL ?_;refine Bc (gk rfl) rfl (hc2 c1) rfl rfl ?_)|(refine gL ?_;refine Bc (gk rfl) rfl (hc2 c2) rfl rfl ?_)|(refine gL ?_;refine Bc (gk rfl) rfl (hc2 s0) rfl rfl ?_)|(refine gL ?_;refine Bc (gk rfl) rfl (hc2 s4) rfl rfl ?_)|(refine gL ?_;refine Bc (gk rfl) rfl (hc2 hck.1) rfl rfl ?_)|(refine gL ?_;refine Bc (gk rfl) rfl (hc2 hck.2.1) rfl rfl ?_)|(refine gL ?_;refine Bc (gk rfl) rfl (hc2 hck.2.2) rfl rfl ?_)|(refine gL ?_;refine Bc (gk rfl) rfl (hc2 hci.1) rfl rfl ?_)|(refine gL ?_;refine Bc (gk rfl) rfl (hc2 hci.2.2) rfl rfl ?_)|(show VR _ _ _ (⟨_,.binOp .neq _ _ _ _,_,_,_,_⟩ :: _) _ _ _;first|refine Hv (gk rfl) rfl rfl rfl rfl (hcs2 k hkn) (hcs2 i hi) rfl ?_)|(refine gN ?_;refine Dv (gk rfl) rfl rfl ?_)|(show VR _ _ _ (⟨_,.fieldAddr _ _ _,_,_,_,_⟩ :: _) _ _ _;first|refine Dg (gk rfl) rfl rfl rfl rfl rfl ?_)|refine J4 ?_|(refine gC ?_;refine Aa (hh) ?_)|refine GG ?_)|(refine gO ?_;refine FR ?_))
   refine Aav (σ':=stY B y b1 b2 rb ro n cap k) ?_ ?_
   ·exact Al
   intro a5 w5 hs5;obtain⟨hj5,ho5,hz5⟩:=hJK ⟨rfl,rfl⟩ H.j ho2 hz2 hs5;have he59:a5.eval (.tmp 59)=yv y:=by
    obtain⟨ρ,Im,h5⟩:=hs5;exact(h5.fr 59 (GU (yv y)) rfl).1
   have he60:a5.eval (.tmp 60)=pvo (B k) 0:=by
    obtain⟨ρ,Im,h5⟩:=hs5;exact(h5.fr 60 (GU (pvo (B k) 0)) rfl).1
   have hlen:((IF sil slot X i k).map B).length<n+1:=by
    have:=Yc sil slot X i k;rw[AjK];omega
   refine AaG ?hg he59 he60 (hy 2 _ (B k) w5 hj5 hlen) ?_
   case hg=>
    obtain⟨ρ,Im,h5⟩:=hs5;exact GOK.wanted (N:=65) (σ:=stY B y b1 b2 rb ro n cap k) (GOK.some (j:=43) (g:=58) (want:=true) (b:=true) rfl rfl rfl rfl rfl) h5 (fun p hp=>by rw[AjI] at hp;subst hp;rfl)
   rintro w6 ⟨hj6,ht6⟩;have ho6:Below w.heap.size w w6:=VA ho5 ht6 (fun b o h=>h.1) (by omega);have hz6:W.heap.size<=w6.heap.size:=Akn hz5 ht6.size;have hj6':J ((IF sil slot X i (k+1)).map B) w6:=by rw[hsk,Akl];exact hj6
   have hs6:=OX (w':=w6) (Im0:=fun b=>b<w.heap.size) hs5 rfl (fun b hb=>by have hb:b<w.heap.size:=hb;omega);have hs7:Sat (⟨w6,fun b=>b<w.heap.size,fun _=>False⟩:Env Tryz.prog 65) ((stY B y b1 b2 rb ro n cap k).upd (.s 61) (some (.v (AB true)))) (a5.put (some 61) (.bool true)) w6:=by
    obtain⟨ρ,Im,h6⟩:=hs6;exact⟨ρ,Im,h6.put (by decide) rfl (fun nm hn=>by cases hn)⟩
   refine Hg 2 ?_;refine Mz ?hno2 ?_ _ _ hs7
   case hno2=>
    rintro⟨a,w,h⟩;exact hno ⟨a,w,h⟩
   repeat'(first|refine HX ?_|fail)
   refine fun a8 w8 hs8=>?_
   show Code.wp _ _ _ _ _;refine VX.run (P3 ?_) hs8
   repeat'(first|(show VC _ (.cond _ _ _) _ _;first|refine E0 ?_)|refine SM ?_)
   refine fun a9 w9 hs9=>?_
   show Code.wp _ _ _ _ _;refine VX.run (P3 ?_) hs9
   repeat'(first|refine AJ ?_|fail)
   refine Aav (σ':=stS y b1 b2 rb ro n cap (k+1)) ?_ ?_
   ·exact Al
   intro a10 w10 hs10;exact fin ⟨rfl,rfl⟩ hj6' ho6 hz6 hs10
 ·have hke:k=n:=by have:=H.kn;omega
  subst hke;have hdd:=CM k k;refine VX.run (P3 ?_) H.sat
  repeat'(first|refine Ad ?_|fail)
  refine fun a3 w3 hs3=>?_
  show(if 0=0 then R .normal a3 w3 else R (.exit 0) a3 w3);rw[Akc rfl];refine hend (.inl rfl) hs3 ?_;have e:IF sil slot X i k=BH sil slot X i:=by rw[<-hX];rfl
  rw[<-e];exact(hJK ⟨rfl,rfl⟩ H.j ho2 hz2 hs3).1
end Go.Proofs.M
namespace Go.Proofs.M
open Go Go.Sx Go.RowKit Go.Proofs Go.Proofs.T Go.Proofs.Q
attribute [local irreducible] VR VC thenQ blockQ retL
def Ee (R:Nat->RI) (n:Nat):D:=.rd n 1 fun k _=>.raw (pvo (R k).blk 0)
abbrev sbC (slot turns:Int) (R:Nat->RI) (n:Nat) (loads:List Ld) (sil:List Si) (len:Nat):List C:=[.d (.int .i64 slot),.d (.int .i64 turns),.d (Ee R n),.d (lds loads),.d (sis sil),.row 102 len]
def fxL (slot turns:Int) (R:Nat->RI) (n:Nat) (loads:List Ld) (sil:List Si) (arr:List Ar) (r0 r2:RI):List (Nat×Blk):=
 [(100,.box (sbC slot turns R n loads sil arr.length)),(102,.row 62 3 (rowOf Ar.enc arr)),(9100,.pin 100 r0),(9102,.pin 102 r2)]
theorem G9 {slot turns:Int} {R:Nat->RI} {n:Nat} {loads:List Ld} {sil:List Si} {arr:List Ar} {r0 r2:RI}:FV (fxL slot turns R n loads sil arr r0 r2):=by
 intro p hp;simp only[fxL,AjO,AjB,or_false] at hp;rcases hp with rfl|rfl|rfl|rfl<;>simp
theorem Jt (w:Wk):∀c∈w.cs,c.names=[]:=by
 intro c hc;simp only[Wk.cs,AjO,AjB,or_false] at hc
 repeat'(rcases hc with rfl|hc;rfl)
theorem Hu (X:List Wk):∀cs∈X.map Wk.cs,∀c∈cs,c.names=[]:=by
 intro cs hcs;obtain⟨w,_,rfl⟩:=Aj5.1 hcs;exact Jt w
theorem Js {X:List Wk} {i:Nat} (hi:i<X.length):(X.map Wk.cs).getD i []=(X.getD i default).cs:=by
 simp[Ajt,hi]
end Go.Proofs.M
namespace Go.Proofs.M
open Go Go.Sx Go.Proofs Go.Proofs.T Go.Proofs.Q
open Go.Proofs.P (Nb nbs Rk rkA rkErr checkNb hearM countM forgetM select')
open Go.Proofs.R (startM advM)
attribute [local irreducible] VR VC thenQ blockQ retL
abbrev PhS (f:FuncId) (slot turns:Int) (nv:D) (loads:List Ld) (sil:List Si) (arr:List Ar) (w v:Wk):Prop:=
 FnW Tryz.prog f [.c (.ptr 100 0),.c (.ptr 101 0)] [(100,.box [.d (.int .i64 slot),.d (.int .i64 turns),.d nv,.d (lds loads),.d (sis sil),.row 102 arr.length]),(101,.box w.cs),(102,.row 62 3 (rowOf Ar.enc arr))] [100,101,102] (.tup []) [(100,.box [.d (.int .i64 slot),.d (.int .i64 turns),.d nv,.d (lds loads),.d (sis sil),.row 102 arr.length]),(101,.box v.cs),(102,.row 62 3 (rowOf Ar.enc arr))]
theorem YE (slot turns:Int) (nv:D) (loads:List Ld) (sil:List Si) (arr:List Ar) (w:Wk):PhS 87 slot turns nv loads sil arr w (AeQ slot arr w).2:=by
 have hm:=Q5 w.nd.st slot;intro r;simp only[Ch,Akq,Aku,Akt,Akp,Nat.reduceAdd];refine FnS.Bv (enters_of func87 (by kernel_rfl) rfl) func87 rfl ntmps87 results87 rfl (by first|rfl|(simp only[BC,wfL,Bj,wfs,AA,Az];rfl)) rfl fun E=>?_
 refine AG ?_;show VC E _ (retL E (Gk Tryz.prog _ _ [(9100,.pin 100 (r 100)),(9101,.pin 101 (r 101)),(9102,.pin 102 (r 102)),(100,.box [.d (.int .i64 slot),.d (.int .i64 turns),.d nv,.d (lds loads),.d (sis sil),.row 102 arr.length]),(101,.box (Wk.cs {w with nd:=MX slot w.nd})),(102,.row 62 3 (rowOf Ar.enc arr))])) _;unfold MX;by_cases h:(Cj w.nd.st slot).2.2=0
 ·have d1:=Aju h;rw[Akc h]
  repeat'(first|refine Ad ?_|refine Aa (hm) ?_|fail)
  exact DA
 ·have d1:=Ajv h;rw[Akb h]
  repeat'(first|refine Ad ?_|refine Aa (hm) ?_|fail)
  exact DA
abbrev AgM (slot:Int) (x:MN) (d:ByteArray):Pk:=⟨x.next,x.rk.parent,1,slot,256,d⟩
abbrev GiS (slot turns:Int) (nv:D) (loads:List Ld) (sil:List Si) (arr:List Ar) (w:Wk) (d:ByteArray):Prop:=
 FnW Tryz.prog 122 [.c (.ptr 100 0),.c (.ptr 101 0),AD (.str d)] [(100,.box [.d (.int .i64 slot),.d (.int .i64 turns),.d nv,.d (lds loads),.d (sis sil),.row 102 arr.length]),(101,.box w.cs),(102,.row 62 3 (rowOf Ar.enc arr))] [100,101,102] (.tup []) [(100,.box [.d (.int .i64 slot),.d (.int .i64 turns),.d nv,.d (lds loads),.d (sis sil),.row 102 arr.length]),(101,.box (Wk.cs {w with nd:=G8 slot w.nd d})),(102,.row 62 3 (rowOf Ar.enc arr))]
theorem N7 (slot turns:Int) (nv:D) (loads:List Ld) (sil:List Si) (arr:List Ar) (w:Wk) (d:ByteArray) (hx:0<=w.nd.next/\w.nd.next<=65535):GiS slot turns nv loads sil arr w d:=by
 have hm:=YS w.nd.st (AgM slot w.nd d);intro r;simp only[Ch,Akq,Aku,Akt,Akp,Nat.reduceAdd];refine FnS.Bv (enters_of func122 (by kernel_rfl) rfl) func122 rfl ntmps122 results122 rfl (by first|rfl|(simp only[BC,wfL,Bj,wfs,AA,Az];rfl)) rfl fun E=>?_
 refine AG ?_;unfold G8;by_cases h0:w.nd.rk.parent<0
 ·have d0:=Aju h0;rw[Akc h0]
  repeat'(first|refine Ad ?_|fail)
  exact DA
 ·have d0:=Ajv h0;rw[Akb h0];by_cases h:(Ia w.nd.st (AgM slot w.nd d)).2.2=0
  ·have d1:=Aju h;rw[Akc h]
   repeat'(first|refine Ad ?_|refine Aa (hm) ?_|fail)
   exact DA
  ·have d1:=Ajv h;rw[Akb h]
   repeat'(first|refine Ad ?_|refine Aa (hm) ?_|fail)
   exact DA
theorem Rx {slot:Int} {x:MN} {d:ByteArray} (h:0<=x.next/\x.next<=65535):0<=(G8 slot x d).next/\(G8 slot x d).next<=65535:=by
 unfold G8
 split
 ·exact h
 ·split
  ·show 0<=(x.next+1) % 65536/\(x.next+1) % 65536<=65535;omega
  ·exact h
theorem HM {slot i:Int}:∀(ls:List Ld) {x:MN},0<=x.next/\x.next<=65535->0<=(E9 slot i ls x).next/\(E9 slot i ls x).next<=65535
 |[],_,h=>h
 |l :: ls,x,h=>by
  unfold E9
  split
  ·exact HM ls (Rx h)
  ·exact HM ls h
theorem Kr (slot i:Int):∀(a:List Ld) (l:Ld) (x:MN),E9 slot i (a++[l]) x=if l.slot=slot/\l.node=i/\i≠0 then G8 slot (E9 slot i a x) (PE i (E9 slot i a x).next) else E9 slot i a x
 |[],_,_=>rfl
 |b :: a,l,x=>Kr slot i a l _
abbrev Lo (p:Ar->Bool):List DV->DV->Prop:=fun ds r=>∃x:Ar,ds=[.agg x.enc]/\r=.d (.bool (p x))
theorem AeK (l:List Ar) (p:Ar->Bool):Ak 60 [AD (ars l),.clo (Lo p)] (AI (oI (Ft l p))):=by
 refine Ao func60 ntmps60 results60 fun E hS=>?_
 refine Bz (t:=0) rfl fun hb=>?_
 repeat'(first|refine Af ?_|fail)
 refine Ax (ι:=Nat) (fun k=>AN [(0,AD (ars l)),(1,.clo (Lo p)),(7,AI l.length),(8,AI k)] []) (fun k=>k<=l.length/\∀i,i<k->p (l.getD i default)=false) (fun k=>l.length-k) 0 ⟨Ake _,fun i hi=>absurd hi (Aj9 _)⟩ ?_ ?_
 ·exact By ⟨rfl,rfl,rfl,rfl,tt0⟩ trivial rfl
 ·intro k hk
  repeat'(first|refine Af ?_|refine F4 (⟨_,rfl,rfl⟩) (gk rfl) rfl rfl rfl rfl ?_|(refine Av ?_ ?_<;>intro h hq)|fail)
  ·refine Aw Ae rfl ?_;rw[C2 hk.2 (by omega) h];rfl
  ·refine⟨k+1,⟨by omega,fun i hi=>?_⟩,by omega,By ⟨rfl,rfl,rfl,rfl,tt0⟩ trivial rfl⟩;by_cases hik:i<k
   ·exact hk.2 i hik
   ·have:i=k:=by omega
    subst this;exact h
  ·refine Aw Ae rfl ?_;have:k=l.length:=by omega
   subst this;rw[CF hk.2];rfl
theorem RQ (l:List Ar) (p:Ar->Bool):Ak 30 [AD (ars l),.clo (Lo p)] (AB (l.any p)):=by
 refine Ao func30 ntmps30 results30 fun E hS=>?_
 repeat'(first|refine Ad ?_|refine AK [] (AeK l p) ?_|fail)
 all_goals exact Aq Ae rfl (EL _ _).symm
def Afk (y x:Ar):Bool:=decide (x.origin=y.origin)&&decide (x.id=y.id)
theorem ZD (x y:Ar):Ak 133 [arA x,.ep (fun j=>y.enc.getD j .Df) 3] (AB (Afk y x)):=by
 refine Ao func133 ntmps133 results133 fun E hS=>?_
 repeat'(first|refine Ad ?_|(refine Av ?_ ?_<;>intro h hq)|fail)
 all_goals(refine Aq Ae rfl ?_;unfold Afk;first|(simp_all;done)|(simp_all;omega))
theorem Vo {σ:St} {y:Ar} {n1:Nat} {L:List Nat} (hL:n1∈L) (h1:σ (.b n1)=some (.k (.box y.cs))):AR Tryz.prog σ L (.fnc 133 [.ptr n1 0]) (.clo (Lo (Afk y))):=
 .fnc (eps:=[.ep (fun j=>y.enc.getD j .Df) 3]) (.cons (.ptr hL h1 (fun j hj=>by
  have:j=0\/j=1\/j=2:=by omega
  rcases this with rfl|rfl|rfl<;>rfl)) .nil) (enters_of func133 (by kernel_rfl) rfl)
  (by rintro _ _ ⟨x,rfl,rfl⟩;exact⟨rfl,ZD x y⟩)
abbrev PhF (f:FuncId) (slot turns:Int) (nv:D) (loads:List Ld) (sil:List Si) (arr:List Ar) (w:Wk):Prop:=
 FnW Tryz.prog f [.c (.ptr 100 0),.c (.ptr 101 0)] [(100,.box [.d (.int .i64 slot),.d (.int .i64 turns),.d nv,.d (lds loads),.d (sis sil),.row 102 arr.length]),(101,.box w.cs),(102,.row 62 3 (rowOf Ar.enc arr))] [100,101] (.tup []) [(100,.box [.d (.int .i64 slot),.d (.int .i64 turns),.d nv,.d (lds loads),.d (sis sil),.row 102 (GA slot arr w).1.length]),(101,.box (GA slot arr w).2.cs),(102,.row 62 3 (rowOf Ar.enc (GA slot arr w).1))]
theorem Gh (s:ByteArray) (i:Nat):0<=bAt s i/\bAt s i<256:=by
 unfold bAt;have:=(s.data.toList.getD i 0).toNat_lt;omega
theorem Ae3 {a b:Nat} (ha:a<2^62) (hb:b<2^62):Ur .or .i64 a b=((a ||| b:Nat):Int):=by
 rw[KA];unfold AcQ;dsimp only;show IntKind.i64.wrap ((BitVec.ofInt 64 a ||| BitVec.ofInt 64 b).toNat:Int)=_;have h:a ||| b<2^62:=Nat.or_lt_two_pow ha hb;rw[BitVec.ofInt_natCast,BitVec.ofInt_natCast,BitVec.toNat_or,BitVec.toNat_ofNat,BitVec.toNat_ofNat,Ak8 (a:=a) (by omega),Ak8 (a:=b) (by omega),wrap_i64 (by omega)]
theorem Agx {a b:Int} (ha:0<=a/\a<256) (hb:0<=b/\b<256):Ur .or .i64 (IntKind.i64.wrap (IntKind.i64.wrap a*2^Int.toNat 8)) (IntKind.i64.wrap b)=256*a+b:=by
 have e8:(2:Int)^Int.toNat 8=256:=by decide
 rw[e8,wrap_i64 (a:=a) (by omega),wrap_i64 (a:=b) (by omega),wrap_i64 (by omega)];have h1:a*256=((2^8*a.toNat:Nat):Int):=by omega
 have h2:b=((b.toNat:Nat):Int):=by omega
 rw[h1]
 conv=>lhs;rw[h2]
 rw[Ae3 (by omega) (by omega),AcB (by omega)];omega
set_option maxRecDepth 100000 in
theorem YD (slot turns:Int) (nv:D) (loads:List Ld) (sil:List Si) (arr:List Ar) (w:Wk) (hx:0<=w.nd.next/\w.nd.next<=65535) (hal:arr.length<=4096):PhF 93 slot turns nv loads sil arr w:=by
 have hgi:=N7 slot turns nv loads sil arr w w.up.data hx;have hcf:=RQ arr (Afk (Xw w.up.data slot));intro r;simp only[Ch,Akq,Aku,Akt,Akp,Nat.reduceAdd];refine FnS.Bv (enters_of func93 (by kernel_rfl) rfl) func93 rfl ntmps93 results93 rfl (by first|rfl|(simp only[BC,wfL,Bj,wfs,AA,Az];rfl)) rfl fun E=>?_
 refine AG ?_;have hno:K4 w=false->GA slot arr w=(arr,w):=fun h=>Akc h
 cases h1:w.up.new with
 |false=>
  have d1:(!w.up.new)=true:=by rw[h1];rfl
  rw[hno (by unfold K4;rw[h1];rfl)]
  repeat'(first|refine Ad ?_|fail)
  exact DA
 |true=>
  have d1:(!w.up.new)=false:=by rw[h1];rfl
  by_cases h2:w.up.BM=4
  ·have d2:decide (w.up.BM≠4)=false:=Ajv (by simpa using h2);by_cases h3:w.up.target=w.node
   ·have d3:decide (w.up.target≠w.node)=false:=Ajv (by simpa using h3);by_cases h4:w.up.data.size=3
    ·have d4:=Cc ((w.up.data.size:Int)≠3);have hf:K4 w=true:=by unfold K4;rw[h1,Aju h2,Aju h3,Aju h4];rfl
     by_cases h5:w.node=0
     ·have d5:decide (w.node≠0)=false:=Ajv (by simpa using h5);have e:GA slot arr w=(DR arr w.up.data slot,w):=by
       unfold GA;rw[Akb (by rw[hf];simp),Akb (by simpa using h5)]
      have b0:=Gh w.up.data 0;have b1:=Gh w.up.data 1;have b2:=Gh w.up.data 2;rw[e];dsimp only
      repeat'(first|refine AJ ?_|refine LH (gk rfl) rfl rfl (by omega) (by decide) rfl rfl ?_|refine Da (m:=0) (gk rfl) rfl rfl rfl (by decide) (by omega) rfl rfl ?_|refine Da (gk rfl) rfl rfl rfl (by omega) (by omega) (by exact(Ale _).symm) rfl ?_|refine A7 ?_|refine C3 (gk rfl) rfl ⟨_,rfl⟩ rfl rfl ?_|refine LN (gk rfl) rfl rfl rfl rfl rfl ?_|refine sq 5 rfl ?_|fail)
      refine VC.le (σ':=AN [(0,.c (.ptr 100 0)),(1,.c (.ptr 101 0)),(5,.c (.ptr 5 0))] [(9100,.pin 100 (r 100)),(9101,.pin 101 (r 101)),(100,.box [.d (.int .i64 slot),.d (.int .i64 turns),.d nv,.d (lds loads),.d (sis sil),.row 102 arr.length]),(101,.box w.cs),(102,.row 62 3 (rowOf Ar.enc arr)),(5,.box (Xw w.up.data slot).cs)]) ?_ ?_
      ·have ek:Ur .or .i64 (IntKind.i64.wrap (IntKind.i64.wrap (bAt w.up.data 1)*2^Int.toNat 8)) (IntKind.i64.wrap (bAt w.up.data 2))=256*bAt w.up.data 1+bAt w.up.data 2:=Agx b1 b2;have ew:IntKind.i64.wrap (bAt w.up.data 0)=bAt w.up.data 0:=wrap_i64 (by omega);show Le _ _ (AN _ [_,_,_,_,_,(5,.box [.d (.int .i64 (bAt w.up.data 0)),.d (.int .i64 (256*bAt w.up.data 1+bAt w.up.data 2)),.d (.int .i64 slot)])]);rw[<-ek];exact Al
      cases h6:arr.any (Afk (Xw w.up.data slot)) with
      |true=>
       have ea:DR arr w.up.data slot=arr:=Akc h6;rw[h6] at hcf;rw[ea]
       repeat'(first|refine Ad ?_|refine Cd [5,102] (hcf) (gk rfl) rfl (by(repeat'(first|exact .nil|refine .cons ?_ ?_|exact(Vo (by simp) rfl)|exact .of0 (.c (CL (by simp) rfl (by rfl) (fun _=>rfl)))))<;>fail) (by rfl) rfl (by rfl) rfl (by rfl) rfl ?_|fail)
       exact DA
      |false=>
       rw[h6] at hcf;have en:¬(arr.any fun x=>decide (x.origin=(Xw w.up.data slot).origin)&&decide (x.id=(Xw w.up.data slot).id))=true:=by
        show ¬arr.any (Afk (Xw w.up.data slot))=true;rw[h6];simp
       repeat'(first|refine AJ ?_|refine Cd [5,102] (hcf) (gk rfl) rfl (by(repeat'(first|exact .nil|refine .cons ?_ ?_|exact(Vo (by simp) rfl)|exact .of0 (.c (CL (by simp) rfl (by rfl) (fun _=>rfl)))))<;>fail) (by rfl) rfl (by rfl) rfl (by rfl) rfl ?_|refine sq 6 rfl ?_|fail)
       refine Gi [(0,.c (.ptr 100 0)),(1,.c (.ptr 101 0)),(5,.c (.ptr 5 0)),(6,AB false)] [(9100,.pin 100 (r 100)),(9101,.pin 101 (r 101)),(100,.box [.d (.int .i64 slot),.d (.int .i64 turns),.d nv,.d (lds loads),.d (sis sil),.row 102 arr.length]),(101,.box w.cs),(102,.row 62 3 (rowOf Ar.enc arr)),(5,.box (Xw w.up.data slot).cs)] ?_;by_cases h7:4096<=arr.length
       ·have d7:=Cc ((arr.length:Int)<4096);have ea:DR arr w.up.data slot=arr:=by unfold DR;rw[Akb en,Akc h7]
        rw[ea];clear h7
        repeat'(first|refine Ad ?_|refine AQ ?_|fail)
        exact DA
       ·have d7:=Es ((arr.length:Int)<4096);have ea:DR arr w.up.data slot=arr++[Xw w.up.data slot]:=by unfold DR;rw[Akb en,Akb h7]
        rw[ea];clear h7
        repeat'(first|refine Ad ?_|refine AQ ?_|refine Ap ?_|fail)
        exact K7 (fun n=>if n=102 then 90 else n)
     ·have d5:decide (w.node≠0)=true:=Aju h5;have e:GA slot arr w=(arr,⟨G8 slot w.nd w.up.data,w.node,w.ac,w.bc,w.rs,w.up⟩):=by
       unfold GA;rw[Akb (by rw[hf];simp),Akc h5]
      rw[e]
      repeat'(first|refine Ad ?_|refine A1 (nmL []) [] [100,101,102] (hgi) ?_|fail)
      exact DA
    ·have d4:=Es ((w.up.data.size:Int)≠3);rw[hno (by unfold K4;rw[Ajv h4];simp)]
     repeat'(first|refine Ad ?_|fail)
     exact DA
   ·have d3:decide (w.up.target≠w.node)=true:=Aju h3;rw[hno (by unfold K4;rw[Ajv h3];simp)]
    repeat'(first|refine Ad ?_|fail)
    exact DA
  ·have d2:decide (w.up.BM≠4)=true:=Aju h2;rw[hno (by unfold K4;rw[Ajv h2];simp)]
   repeat'(first|refine Ad ?_|fail)
   exact DA
def Sr (l:List Pk) (o n:Int) (k:Nat):List Pk:=(l.take k).map (Ec o n)++l.drop k
theorem Abe (l:List Pk) (o n:Int) (k:Nat):(Sr l o n k).length=l.length:=by
 unfold Sr;rw[Ajy,AjK,AjD,AjG];omega
theorem U0 {l:List Pk} {o n:Int} {k:Nat} (hk:k<l.length):(Sr l o n k).getD k default=l.getD k default:=by
 unfold Sr;rw[Ajt,AkE (by rw[AjK,AjD];omega),AjK,AjD,AkI,Ajt]
 congr 2;omega
theorem UZ {l:List Pk} {o n:Int} {k:Nat} (hk:k<l.length):(Sr l o n k).set k (Ec o n (l.getD k default))=Sr l o n (k+1):=by
 have h1:((l.take k).map (Ec o n)).length=k:=by rw[AjK,AjD];omega
 have h2:l.drop k=l.getD k default :: l.drop (k+1):=by
  rw[AkV hk,Ajt,AjC hk];rfl
 unfold Sr;rw[h2,List.set_append_right _ _ (by omega),h1,Ak2,List.set_cons_zero,Bq hk,Akl,AjP]
 rfl
theorem Yo {l:List Pk} {o n:Int} {k:Nat} (hk:k<l.length) (h:(l.getD k default).to≠o):Sr l o n (k+1)=Sr l o n k:=by
 have e:Ec o n (l.getD k default)=l.getD k default:=Akb h;rw[<-UZ hk,e];have:=U0 (o:=o) (n:=n) hk;refine List.ext_getElem (by simp) fun i h1 h2=>?_
 rw[List.getElem_set]
 split
 ·rename_i hi;subst hi;rw[<-this,Ajt,AjC h2];rfl
 ·rfl
theorem Yn (l:List Pk) (o n:Int):Sr l o n 0=l:=by simp[Sr]
theorem Abf {l:List Pk} {o n:Int} {k:Nat} (h:l.length<=k):Sr l o n k=l.map (Ec o n):=by
 unfold Sr;rw[Aj1 h,List.drop_eq_nil_of_le h,AjQ]
theorem QQ (slot turns:Int) (nv:D) (loads:List Ld) (sil:List Si) (arr:List Ar) (w:Wk) (hq:w.nd.st.qu.Ab.length<=100000):PhS 94 slot turns nv loads sil arr w (MW slot arr w).2:=by
 have hf:=P.T4 w.nd.nb slot 256;have hse:=P.SY (forgetM w.nd.nb slot 256) w.nd.rk 64;have hcl:=Iw w.nd.st.qu.Ab (by omega);intro r;simp only[Ch,Akq,Aku,Akt,Akp,Nat.reduceAdd];refine FnS.Abr (enters_of func94 (by kernel_rfl) rfl) func94 rfl ntmps94 results94 rfl (by first|rfl|(simp only[BC,wfL,Bj,wfs,AA,Az];rfl)) rfl rfl rfl (by intro p hp;simp only[AjO,AjB,or_false] at hp;rcases hp with rfl|rfl|rfl|rfl|rfl|rfl<;>rfl) fun E hO=>?_
 refine AG ?_;show VC E _ (retL E (Gk Tryz.prog _ _ [(9100,.pin 100 (r 100)),(9101,.pin 101 (r 101)),(9102,.pin 102 (r 102)),(100,.box [.d (.int .i64 slot),.d (.int .i64 turns),.d nv,.d (lds loads),.d (sis sil),.row 102 arr.length]),(101,.box (Wk.cs ⟨D0 slot w.nd,w.node,w.ac,w.bc,w.rs,w.up⟩)),(102,.row 62 3 (rowOf Ar.enc arr))])) _;unfold D0;generalize forgetM w.nd.nb slot 256=NB at *;generalize select' NB w.nd.rk 64=SE at *;obtain⟨rk2,ch,er⟩:=SE;dsimp only at hse ⊢;by_cases h1:er=0
 ·have d1:decide (er≠0)=false:=Ajv (by simpa using h1);rw[Akb (by simpa using h1)];have one:ch=false\/rk2.parent<0\/w.nd.rk.parent<0->(if ch=false\/rk2.parent<0\/w.nd.rk.parent<0 then({w.nd with nb:=NB,rk:=rk2}:MN) else{w.nd with nb:=NB,rk:=rk2,st:={w.nd.st with qu:=⟨w.nd.st.qu.Be,w.nd.st.qu.Ab.map (Ec w.nd.rk.parent rk2.parent)⟩}})=⟨w.nd.st,rk2,NB,w.nd.next⟩:=fun h=>Akc h
  cases ch with
  |false=>
   have d2:(!false)=true:=rfl;rw[one (.inl rfl)]
   repeat'(first|refine Ad ?_|refine Aa (hf) ?_|refine Aa (hse) ?_|fail)
   exact DA
  |true=>
   have d2:(!true)=false:=rfl;by_cases h3:rk2.parent<0
   ·have d3:=Aju h3;rw[one (.inr (.inl h3))]
    repeat'(first|refine Ad ?_|refine Aa (hf) ?_|refine Aa (hse) ?_|fail)
    exact DA
   ·have d3:=Ajv h3;by_cases h4:w.nd.rk.parent<0
    ·have d4:=Aju h4;rw[one (.inr (.inr h4))]
     repeat'(first|refine Ad ?_|refine Aa (hf) ?_|refine Aa (hse) ?_|fail)
     exact DA
    ·have d4:=Ajv h4;have two:(if true=false\/rk2.parent<0\/w.nd.rk.parent<0 then({w.nd with nb:=NB,rk:=rk2}:MN) else{w.nd with nb:=NB,rk:=rk2,st:={w.nd.st with qu:=⟨w.nd.st.qu.Be,w.nd.st.qu.Ab.map (Ec w.nd.rk.parent rk2.parent)⟩}})=
      ⟨⟨w.nd.st.tb,⟨w.nd.st.qu.Be,w.nd.st.qu.Ab.map (Ec w.nd.rk.parent rk2.parent)⟩,w.nd.st.held,w.nd.st.seen,w.nd.st.list,w.nd.st.seq,w.nd.st.A6,w.nd.st.tries,w.nd.st.back,w.nd.st.wait,w.nd.st.Cq⟩,rk2,NB,w.nd.next⟩:=Akb (by rintro(h|h|h);cases h;exact h3 h;exact h4 h)
     rw[two]
     repeat'(first|refine AJ ?_|refine Aa (hf) ?_|refine Aa (hse) ?_|refine sq 6 rfl ?_|fail)
     repeat'(first|refine AJ ?_|refine Aa (hcl) ?_|refine sq 7 rfl ?_|fail)
     refine VC.le (σ':=AN [(0,.c (.ptr 100 0)),(1,.c (.ptr 101 0)),(4,AI w.nd.rk.parent),(5,.c (.ptr 5 0))] [(9100,.pin 100 (r 100)),(9101,.pin 101 (r 101)),(9102,.pin 102 (r 102)),(100,.box [.d (.int .i64 slot),.d (.int .i64 turns),.d nv,.d (lds loads),.d (sis sil),.row 102 arr.length]),(101,.box [.d (.int .i64 w.nd.st.tb.node),.d (.int .i64 w.nd.st.tb.len),.d (tcs w.nd.st.tb.cells),.d (.int .i64 w.nd.st.qu.Be),.row 104 w.nd.st.qu.Ab.length,.d (hds w.nd.st.held),.d (sns w.nd.st.seen),.d (.int .i64 w.nd.st.list),.d (.int .i64 w.nd.st.seq),.d (.int .i64 w.nd.st.A6),.d (.int .i64 w.nd.st.tries),.d (.int .i64 w.nd.st.back),.d (.int .i64 w.nd.st.wait),.d (.int .i64 w.nd.st.Cq),.d (.int .i64 rk2.node),.d (.int .i64 rk2.epoch),.d (.int .i64 rk2.parent),.d (.int .i64 rk2.heard),.d (.int .i64 rk2.rank),.d (.int .i64 rk2.least),.d (nbs NB),.d (.int .i64 w.nd.next),.d (.int .i64 w.node),.d (.int .i64 w.ac.kind),.d (.int .i64 w.ac.offset),.d (.int .i64 w.ac.BM),.d (.int .i64 w.ac.source),.d (.int .i64 w.ac.target),.d (.int .i64 w.ac.list),.d (.int .i64 w.ac.seq),.d (.int .i64 w.ac.BR),.d (.int .i64 w.ac.number),.d (.int .i64 w.ac.err),.d (.int .i64 w.ac.slot),.d (.int .i64 w.ac.rank),.d (.int .i64 w.ac.epoch),.d (.str w.ac.data),.d (.bool w.bc),.d (.bool w.rs.AH),.d (.bool w.rs.heard),.d (.int .i64 w.rs.BM),.d (.int .i64 w.rs.source),.d (.int .i64 w.rs.target),.d (.int .i64 w.rs.list),.d (.int .i64 w.rs.seq),.d (.int .i64 w.rs.BR),.d (.int .i64 w.rs.number),.d (.int .i64 w.rs.err),.d (.int .i64 w.rs.slot),.d (.int .i64 w.rs.rank),.d (.int .i64 w.rs.epoch),.d (.str w.rs.data),.d (.int .i64 w.rs.error),.d (.bool w.up.some),.d (.bool w.up.new),.d (.int .i64 w.up.BM),.d (.int .i64 w.up.source),.d (.int .i64 w.up.target),.d (.int .i64 w.up.list),.d (.int .i64 w.up.seq),.d (.int .i64 w.up.BR),.d (.int .i64 w.up.number),.d (.int .i64 w.up.err),.d (.int .i64 w.up.slot),.d (.int .i64 w.up.rank),.d (.int .i64 w.up.epoch),.d (.str w.up.data)]),(102,.row 62 3 (rowOf Ar.enc arr)),(5,.box rk2.cs),(104,.row 120 6 (rowOf Pk.enc w.nd.st.qu.Ab))]) ?_ ?_
     ·exact BF (fun n=>if n=104 then 71007 else n)
     repeat'(first|refine AJ ?_|refine AQ ?_|(show VC _ (.seq (.region _ _ _) _) _ _;refine Dw ?_)|refine BN ?_|fail)
     refine Ax (ι:=Nat) (fun k=>AN [(1,.c (.ptr 101 0)),(4,AI w.nd.rk.parent),(5,.c (.ptr 5 0)),(84,AI w.nd.st.qu.Ab.length),(85,AI k)] [(9100,.pin 100 (r 100)),(9101,.pin 101 (r 101)),(9102,.pin 102 (r 102)),(100,.box [.d (.int .i64 slot),.d (.int .i64 turns),.d nv,.d (lds loads),.d (sis sil),.row 102 arr.length]),(101,.box [.d (.int .i64 w.nd.st.tb.node),.d (.int .i64 w.nd.st.tb.len),.d (tcs w.nd.st.tb.cells),.d (.int .i64 w.nd.st.qu.Be),.row 104 w.nd.st.qu.Ab.length,.d (hds w.nd.st.held),.d (sns w.nd.st.seen),.d (.int .i64 w.nd.st.list),.d (.int .i64 w.nd.st.seq),.d (.int .i64 w.nd.st.A6),.d (.int .i64 w.nd.st.tries),.d (.int .i64 w.nd.st.back),.d (.int .i64 w.nd.st.wait),.d (.int .i64 w.nd.st.Cq),.d (.int .i64 rk2.node),.d (.int .i64 rk2.epoch),.d (.int .i64 rk2.parent),.d (.int .i64 rk2.heard),.d (.int .i64 rk2.rank),.d (.int .i64 rk2.least),.d (nbs NB),.d (.int .i64 w.nd.next),.d (.int .i64 w.node),.d (.int .i64 w.ac.kind),.d (.int .i64 w.ac.offset),.d (.int .i64 w.ac.BM),.d (.int .i64 w.ac.source),.d (.int .i64 w.ac.target),.d (.int .i64 w.ac.list),.d (.int .i64 w.ac.seq),.d (.int .i64 w.ac.BR),.d (.int .i64 w.ac.number),.d (.int .i64 w.ac.err),.d (.int .i64 w.ac.slot),.d (.int .i64 w.ac.rank),.d (.int .i64 w.ac.epoch),.d (.str w.ac.data),.d (.bool w.bc),.d (.bool w.rs.AH),.d (.bool w.rs.heard),.d (.int .i64 w.rs.BM),.d (.int .i64 w.rs.source),.d (.int .i64 w.rs.target),.d (.int .i64 w.rs.list),.d (.int .i64 w.rs.seq),.d (.int .i64 w.rs.BR),.d (.int .i64 w.rs.number),.d (.int .i64 w.rs.err),.d (.int .i64 w.rs.slot),.d (.int .i64 w.rs.rank),.d (.int .i64 w.rs.epoch),.d (.str w.rs.data),.d (.int .i64 w.rs.error),.d (.bool w.up.some),.d (.bool w.up.new),.d (.int .i64 w.up.BM),.d (.int .i64 w.up.source),.d (.int .i64 w.up.target),.d (.int .i64 w.up.list),.d (.int .i64 w.up.seq),.d (.int .i64 w.up.BR),.d (.int .i64 w.up.number),.d (.int .i64 w.up.err),.d (.int .i64 w.up.slot),.d (.int .i64 w.up.rank),.d (.int .i64 w.up.epoch),.d (.str w.up.data)]),(102,.row 62 3 (rowOf Ar.enc arr)),(5,.box rk2.cs),(104,.row 120 6 (rowOf Pk.enc (Sr w.nd.st.qu.Ab w.nd.rk.parent rk2.parent k)))])
      (fun k=>k<=w.nd.st.qu.Ab.length) (fun k=>w.nd.st.qu.Ab.length-k) 0 (Ake _) ?_ ?_
     ·rw[Yn];exact Al
     ·intro k hk;have hrl:=Abe w.nd.st.qu.Ab w.nd.rk.parent rk2.parent k;by_cases hc:k<w.nd.st.qu.Ab.length
      ·have hdd:=Cz k w.nd.st.qu.Ab.length;have hg:=U0 (o:=w.nd.rk.parent) (n:=rk2.parent) hc;by_cases h5:(w.nd.st.qu.Ab.getD k default).to=w.nd.rk.parent
       ·have d5:=Aju h5;have hs:=UZ (o:=w.nd.rk.parent) (n:=rk2.parent) hc;have er:Ec w.nd.rk.parent rk2.parent (w.nd.st.qu.Ab.getD k default)={w.nd.st.qu.Ab.getD k default with to:=rk2.parent}:=Akc h5;rw[<-hg] at d5 er
        repeat'(first|refine Af ?_|refine AS ?_|refine EH (gk rfl) rfl rfl ?_|refine B8 ?_|refine BY (gk rfl) rfl rfl (by omega) rfl rfl rfl ?_|refine AY ?_|fail)
        refine BU (k+1) ?_;rw[<-hs,<-hg,er];generalize Sr w.nd.st.qu.Ab w.nd.rk.parent rk2.parent k=m at *;exact Al
       ·have d5:=Ajv h5;have hs:=Yo (o:=w.nd.rk.parent) (n:=rk2.parent) hc h5;rw[<-hg] at d5
        repeat'(first|refine Af ?_|refine AS ?_|refine EH (gk rfl) rfl rfl ?_|refine B8 ?_|refine BY (gk rfl) rfl rfl (by omega) rfl rfl rfl ?_|fail)
        refine BU (k+1) ?_;rw[hs];exact Al
      ·have hdd:=CM k w.nd.st.qu.Ab.length;have e:Sr w.nd.st.qu.Ab w.nd.rk.parent rk2.parent k=w.nd.st.qu.Ab.map (Ec w.nd.rk.parent rk2.parent):=Abf (by omega);rw[e] at hrl ⊢;generalize w.nd.st.qu.Ab.map (Ec w.nd.rk.parent rk2.parent)=m at *
       repeat'(first|refine Ad ?_|fail)
       refine Ag (Aii (l:=[]) (b:=[(9100,.pin 100 (r 100)),(9101,.pin 101 (r 101)),(9102,.pin 102 (r 102)),(100,.box [.d (.int .i64 slot),.d (.int .i64 turns),.d nv,.d (lds loads),.d (sis sil),.row 102 arr.length]),(101,.box (Wk.cs ⟨⟨⟨w.nd.st.tb,⟨w.nd.st.qu.Be,m⟩,w.nd.st.held,w.nd.st.seen,w.nd.st.list,w.nd.st.seq,w.nd.st.A6,w.nd.st.tries,w.nd.st.back,w.nd.st.wait,w.nd.st.Cq⟩,rk2,NB,w.nd.next⟩,w.node,w.ac,w.bc,w.rs,w.up⟩)),(102,.row 62 3 (rowOf Ar.enc arr))]) (fun n=>n) [104] hO (by intro p hp n r e;simp only[AjO,AjB,or_false] at hp;rcases hp with rfl|rfl|rfl|rfl|rfl|rfl<;>first|(cases e;exact⟨rfl,⟨_,rfl,rfl⟩,by simp⟩)|cases e) ?_ ?_ rfl (by(simp only[wfL,wfs,AA,Az];rfl))) (Jr Dy .nil rfl (by repeat'(first|exact tt0|refine⟨rfl,?_⟩)))
       all_goals repeat'(first|exact tt0|refine⟨⟨_,rfl,?_⟩,?_⟩|exact .pin rfl|exact .CJ rfl Ai|refine .box ?_|exact .nil|refine .cons ?_ ?_|exact .d|exact .row rfl rfl|(refine .Bm (by(simp;done)) rfl ?_ (fun _=>rfl);((try dsimp only);first|omega);done)|fail)
 ·have d1:decide (er≠0)=true:=Aju h1;rw[Akc h1]
  repeat'(first|refine Ad ?_|refine Aa (hf) ?_|refine Aa (hse) ?_|fail)
  exact DA
end Go.Proofs.M
namespace Go.Proofs
open Go Go.Sx Go.Proofs.T Go.Proofs.Q
attribute [local irreducible] VR VC thenQ blockQ retL
def Ab5 (h:Hd) (c:C):List C:=EJ ((Hd.enc h).map C.d) 4 [c]
def Eh (l:List Hd) (i nm:Nat):List (List C):=(rowOf Hd.enc l).set i (Ab5 (l.getD i default) (.row nm (l.getD i default).AH.length))
theorem Gx {l:List Hd} {i nm:Nat}:(Eh l i nm).length=l.length:=by simp[Eh,An]
theorem MF {l:List Hd} {i nm k:Nat}:(Eh l i nm).map (fun cs=>cs.map (C.shift k))=Eh l i (k+nm):=by
 unfold Eh;rw[List.map_set,FH]
 rfl
theorem BB {l:List Hd} {i nm T:Nat} (hi:i<l.length):(Blk.row T 5 (Eh l i nm)).names=[nm]:=by
 have h1:∀m:List Hd,(rowOf Hd.enc m).flatMap (fun cs=>cs.flatMap C.names)=[]:=fun m=>Bi (T:=T) (sz:=5) (enc:=Hd.enc) (l:=m)
 show(Eh l i nm).flatMap (fun cs=>cs.flatMap C.names)=[nm];unfold Eh;rw[List.set_eq_take_append_cons_drop,Akc (by rw[An];exact hi),List.flatMap_append,List.flatMap_cons,Dj,Fv,h1,h1]
 rfl
theorem EY {l:List Hd} {i nm k:Nat} (hk:k<l.length) (hik:k≠i):(Eh l i nm)[k]?=some ((Hd.enc (l.getD k default)).map C.d):=by
 unfold Eh;rw[AjR (fun e=>hik e.symm),Cr hk]
theorem Iq {l:List Hd} {i nm:Nat} (hi:i<l.length):(Eh l i nm)[i]?=some (Ab5 (l.getD i default) (.row nm (l.getD i default).AH.length)):=by
 unfold Eh;exact Kg (Cr hi)
theorem LB {σ:St} {f:Nat->Nat} {L:List Nat} {T:Nat} {xs ys:List (List C)} (hl:xs.length=ys.length) (h:∀i,i<ys.length->∀a b,xs[i]?=some a->ys[i]?=some b->Bh (CW σ f L) a b):BW σ f L (.row T 5 xs) (.row T 5 ys):=by
 refine .row (Bh.U6 hl fun i a b ha hb=>h i ?_ a b ha hb);exact(Akg.1 hb).1
theorem Lx {σ:St} {f:Nat->Nat} {L:List Nat} (x:Hd):Bh (CW σ f L) ((Hd.enc x).map C.d) ((Hd.enc x).map C.d):=CWs.refl (by simp[Hd.enc,C.isD])
theorem Aiy {σ:St} {f:Nat->Nat} {L:List Nat} {T i nm nm':Nat} {l:List Hd} (hi:i<l.length) (hf:f nm'=nm):
  BW σ f L (.row T 5 ((rowOf Hd.enc l).set i (EJ ((Hd.enc (l.getD i default)).map C.d) 4 [.row nm (l.getD i default).AH.length]))) (.row T 5 (Eh l i nm')):=by
 refine LB (by simp[Eh]) fun k hk a b ha hb=>?_
 rw[Gx] at hk;by_cases hik:k=i
 ·subst hik;rw[Kg (Cr hi)] at ha;rw[Iq hi] at hb;injection ha with ha;subst ha
  injection hb with hb;subst hb
  exact .cons .d (.cons .d (.cons .d (.cons .d (.cons (.row hf rfl) .nil))))
 ·rw[AjR (fun e=>hik e.symm),Cr hk] at ha;rw[EY hk hik] at hb;injection ha with ha;subst ha
  injection hb with hb;subst hb
  exact Lx _
theorem Ae0 {σ:St} {f:Nat->Nat} {L:List Nat} {T i k nm nm':Nat} {l:List Hd} {c:C} (hi:i<l.length) (hk:k<l.length) (hik:k≠i) (hf:f nm'=nm) (hc:CW σ f L c (.d (ints (l.getD k default).AH))):
  BW σ f L (.row T 5 ((Eh l i nm).set k (EJ ((Hd.enc (l.getD k default)).map C.d) 4 [c]))) (.row T 5 (Eh l i nm')):=by
 refine LB (by simp[Eh]) fun j hj a b ha hb=>?_
 rw[Gx] at hj;by_cases hjk:j=k
 ·subst hjk;rw[Kg (EY hk hik)] at ha;rw[EY hk hik] at hb;injection ha with ha;subst ha
  injection hb with hb;subst hb
  exact .cons .d (.cons .d (.cons .d (.cons .d (.cons hc .nil))))
 ·rw[AjR (fun e=>hjk e.symm)] at ha;by_cases hji:j=i
  ·subst hji;rw[Iq hi] at ha hb;injection ha with ha;subst ha
   injection hb with hb;subst hb
   exact .cons .d (.cons .d (.cons .d (.cons .d (.cons (.row hf rfl) .nil))))
  ·rw[EY hj hji] at ha hb;injection ha with ha;subst ha
   injection hb with hb;subst hb
   exact Lx _
theorem Aiz {σ:St} {f:Nat->Nat} {L:List Nat} {T i nm nm':Nat} {l:List Hd} (hi:i<l.length) (hf:f nm'=nm):BW σ f L (.row T 5 (Eh l i nm)) (.row T 5 (Eh l i nm')):=by
 refine LB (by simp[Eh]) fun j hj a b ha hb=>?_
 rw[Gx] at hj;by_cases hji:j=i
 ·subst hji;rw[Iq hi] at ha hb;injection ha with ha;subst ha
  injection hb with hb;subst hb
  exact .cons .d (.cons .d (.cons .d (.cons .d (.cons (.row hf rfl) .nil))))
 ·rw[EY hj hji] at ha hb;injection ha with ha;subst ha
  injection hb with hb;subst hb
  exact Lx _
theorem Vw {σ:St} {L:List Nat} {nm nm3 n T T3 i:Nat} {l:List Hd} (hi:i<l.length) (hL:nm∈L) (hb:σ (.b nm)=some (.k (.row T 5 (Eh l i nm3)))) (hL3:nm3∈L) (hb3:σ (.b nm3)=some (.k (.row T3 1 (rowOf FT.enc (l.getD i default).AH)))) (hn:n=l.length):
  CR σ L (.row nm n) (.d (hds l)):=by
 subst hn;refine .Ahq (cf:=fun k j=>if k=i then(Ab5 (l.getD i default) (.row nm3 (l.getD i default).AH.length)).getD j (.d .Df) else .d ((Hd.enc (l.getD k default)).getD j .Df)) hL hb (by rw[Gx];exact Akd _) (fun k x hk hx j hj=>?_) (fun k j hk hj=>?_)
 ·have:j=0\/j=1\/j=2\/j=3\/j=4:=by omega
  by_cases hki:k=i
  ·subst hki;rw[Iq hi] at hx;injection hx with hx;subst hx
   rw[Akc rfl];rcases this with rfl|rfl|rfl|rfl|rfl<;>rfl
  ·rw[EY hk hki] at hx;injection hx with hx;subst hx
   rw[Akb hki];rcases this with rfl|rfl|rfl|rfl|rfl<;>rfl
 ·have:j=0\/j=1\/j=2\/j=3\/j=4:=by omega
  by_cases hki:k=i
  ·subst hki;rw[Akc rfl];rcases this with rfl|rfl|rfl|rfl|rfl
   ·exact .d
   ·exact .d
   ·exact .d
   ·exact .d
   ·exact CL hL3 hb3 rfl fun _=>rfl
  ·rw[Akb hki];exact .d
theorem Uk (s:Sta) (hck:AU s=0) (i:Nat) (hi:i<s.held.length):FnS Tryz.prog 160 [stA s] [] (.agg (s.csR (.row 101 s.held.length) (.row 102 s.seen.length)))
  [(101,.row 110 5 (Eh s.held i 103)),(102,.row 123 2 (rowOf Sn.enc s.seen)),(103,.row 3 1 (rowOf FT.enc (s.held.getD i default).AH))]:=by
 obtain⟨hT,hQ,_,hH,hSn,_,_⟩:=Ba hck;have hTl:=B4 hT;have hQl:=B9 hQ;have hHl:=Ds hH;have hSl:=JC hSn;refine Ao func160 ntmps160 results160 fun E hS=>?_
 refine AG ?_
 repeat'(first|refine Af ?_|refine Aa (PF s.tb.cells (by omega)) ?_ (hwf:=by(simp only[BC,wfL,Bj,wfs,BB hi,AA,Az];rfl))|refine Aa (Iw s.qu.Ab (by omega)) ?_ (hwf:=by(simp only[BC,wfL,Bj,wfs,BB hi,AA,Az];rfl))|refine Aa (Vy s.held (by omega)) ?_ (hwf:=by(simp only[BC,wfL,Bj,wfs,BB hi,AA,Az];rfl))|refine Aa (Vx s.seen (by omega)) ?_ (hwf:=by(simp only[BC,wfL,Bj,wfs,BB hi,AA,Az];rfl))|refine AQ ?_|fail)
 refine Ax (ι:=Nat) (fun k=>if k<=i then AN [(1,.c (.ptr 1 0)),(2,.c (.ptr 2 0)),(26,AI s.held.length),(27,AI k)] [(1,.box (s.csR (.row 101 s.held.length) (.row 102 s.seen.length))),(2,.box noS.cs),(101,.row 110 5 (rowOf Hd.enc s.held)),(102,.row 123 2 (rowOf Sn.enc s.seen))] else AN [(1,.c (.ptr 1 0)),(2,.c (.ptr 2 0)),(26,AI s.held.length),(27,AI k)] [(1,.box (s.csR (.row 101 s.held.length) (.row 102 s.seen.length))),(2,.box noS.cs),(101,.row 110 5 (Eh s.held i 103)),(102,.row 123 2 (rowOf Sn.enc s.seen)),(103,.row 3 1 (rowOf FT.enc (s.held.getD i default).AH))])
  (fun k=>k<=s.held.length) (fun k=>s.held.length-k) 0 (Ake _) ?_ ?_
 ·rw[Akc (Ake _)];exact Cu (fun n=>if n=101 then 18007 else if n=102 then 21007 else n) [7007,11007] hS (hwf:=by(simp only[wfL,wfs,AA,Az,BB hi];rfl))
 ·intro k hk;rcases Akf k s.held.length with hlt|hge
  ·have dlt:=Cz k s.held.length;have hal:=GQ (DE (hHl.2 k hlt).1).2.2.2.2.2.2;rcases Nat.lt_trichotomy k i with hki|hki|hki
   ·rw[Akc (by omega)]
    repeat'(first|refine Af ?_|refine Aa (PG (s.held.getD k default).AH (by omega)) ?_ (hwf:=by(simp only[BC,wfL,Bj,wfs,BB hi,AA,Az];rfl))|refine AS ?_|refine BY (gk rfl) rfl rfl (by omega) rfl rfl rfl ?_|refine AY ?_|fail)
    refine BU (k+1) ?_;rw[Akc (by omega)];refine DL (fun n=>n) [39007] hS ?_ ?_ rfl (by(simp only[wfL,wfs,AA,Az,BB hi];rfl))
    all_goals repeat'(first|exact tt0|refine⟨⟨_,rfl,?_⟩,?_⟩|exact .c .d|exact .c (.ptr rfl)|exact .FA rfl rfl|exact .CJ rfl Ai|refine .box ?_|exact .nil|refine .cons ?_ ?_|exact .d|exact .row rfl rfl|fail)
    exact AcP hlt (.Bm (enc:=FT.enc) (by simp) rfl rfl (fun _=>rfl))
   ·rw[Akc (by omega)]
    repeat'(first|refine Af ?_|refine Aa (PG (s.held.getD k default).AH (by omega)) ?_ (hwf:=by(simp only[BC,wfL,Bj,wfs,BB hi,AA,Az];rfl))|refine AS ?_|refine BY (gk rfl) rfl rfl (by omega) rfl rfl rfl ?_|refine AY ?_|fail)
    refine BU (k+1) ?_;rw[Akb (by omega)];subst hki;refine A0 (fun n=>if n=103 then 39007 else n) ?_ ?_ rfl (by(simp only[wfL,wfs,AA,Az,BB hi];rfl))
    all_goals repeat'(first|exact tt0|refine⟨⟨_,rfl,?_⟩,?_⟩|exact .c .d|exact .c (.ptr rfl)|exact .FA rfl rfl|exact .CJ rfl Ai|refine .box ?_|exact .nil|refine .cons ?_ ?_|exact .d|exact .row rfl rfl|fail)
    exact Aiy hlt rfl
   ·rw[Akb (by omega)];have hne:k≠i:=by omega
    repeat'(first|refine Af ?_|refine EN (gk rfl) rfl rfl rfl rfl rfl rfl (by omega) (Gx.symm▸hlt) rfl ?_|refine FC (gk rfl) rfl rfl (EY hlt hne) rfl rfl rfl ?_|refine Du (gk rfl) rfl rfl rfl (EY hlt hne) rfl rfl rfl ?_|refine Aa (PG (s.held.getD k default).AH (by omega)) ?_ (hwf:=by(simp only[BC,wfL,Bj,wfs,BB hi,AA,Az];rfl))|fail)
    refine BU (k+1) ?_;rw[Akb (by omega)];refine DL (fun n=>n) [39007] hS ?_ ?_ rfl (by(simp only[wfL,wfs,AA,Az,BB hi];rfl))
    all_goals repeat'(first|exact tt0|refine⟨⟨_,rfl,?_⟩,?_⟩|exact .c .d|exact .c (.ptr rfl)|exact .FA rfl rfl|exact .CJ rfl Ai|refine .box ?_|exact .nil|refine .cons ?_ ?_|exact .d|exact .row rfl rfl|fail)
    exact Ae0 hi hlt hne rfl (.Bm (enc:=FT.enc) (by simp) rfl rfl (fun _=>rfl))
  ·have dlt:=CM k s.held.length;rw[Akb (by omega)]
   repeat'(first|refine Ad ?_|fail)
   refine Ag (A0 (l:=[(2,.c (.ptr 2 0))]) (b:=[(2,.box (s.csR (.row 101 s.held.length) (.row 102 s.seen.length))),(101,.row 110 5 (Eh s.held i 103)),(102,.row 123 2 (rowOf Sn.enc s.seen)),(103,.row 3 1 (rowOf FT.enc (s.held.getD i default).AH))]) (fun n=>n) ?_ ?_ rfl (by(simp only[wfL,wfs,AA,Az,BB hi];rfl))) (Jr Ae (.agg rfl rfl rfl rfl .nil) rfl (by repeat'(first|exact tt0|refine⟨rfl,?_⟩)))
   all_goals repeat'(first|exact tt0|refine⟨⟨_,rfl,?_⟩,?_⟩|exact .c (.ptr rfl)|exact .CJ rfl Ai|refine .box ?_|exact .nil|refine .cons ?_ ?_|exact .d|exact .row rfl rfl|fail)
   exact Aiz hi rfl
theorem SW (s:Sta) (slot:Int) (hck:AU s=0) (hs:0<=slot/\slot<=109951162) (i:Nat) (hi:i<s.held.length):FnS Tryz.prog 171 [stA s,AI slot] [] (.tup [.c (.ptr 100 0),AI 0]) [(100,.box (wcs s (.row 101 s.held.length) (.row 102 s.seen.length) slot (atM s.tb slot).1)),(101,.row 110 5 (Eh s.held i 103)),(102,.row 123 2 (rowOf Sn.enc s.seen)),(103,.row 3 1 (rowOf FT.enc (s.held.getD i default).AH))]:=by
 have hc:=D1 s;rw[hck] at hc;have d1:(!decide (0<=slot/\slot<=109951162))=false:=by simp only[Bool.not_eq_false',Ajw];exact hs
 refine Ao func171 ntmps171 results171 fun E hS=>?_
 refine AG ?_
 repeat'(first|refine Ad ?_|refine Aa (hc) ?_|refine Aa (B0 _ _) ?_|refine Aa (Uk s hck i hi) ?_ (hwf:=by(simp only[BC,wfL,Bj,wfs,BB hi,AA,Az];rfl)) (hU:=by((simp only[Fs,Akq,Aku,Blk.shift,FH,MF])<;>rfl))|refine Aa (PM s.tb slot) ?_|fail)
 refine Ag (A0 (l:=[(4,.c (.ptr 100 0)),(5,AI 0)]) (b:=[(100,.box (wcs s (.row 101 s.held.length) (.row 102 s.seen.length) slot (atM s.tb slot).1)),(101,.row 110 5 (Eh s.held i 103)),(102,.row 123 2 (rowOf Sn.enc s.seen)),(103,.row 3 1 (rowOf FT.enc (s.held.getD i default).AH))]) (fun n=>if n=100 then 17 else if n=101 then 14101 else if n=102 then 14102 else if n=103 then 14103 else n) ?_ ?_ rfl (by(simp only[wfL,wfs,AA,Az,BB hi];rfl))) (Jr Ae (.tmp rfl rfl (.tmp rfl rfl .nil)) rfl (by repeat'(first|exact tt0|refine⟨rfl,?_⟩)))
 all_goals repeat'(first|exact tt0|refine⟨⟨_,rfl,?_⟩,?_⟩|exact .c .d|exact .c (.ptr rfl)|exact .CJ rfl Ai|refine .box ?_|exact .nil|refine .cons ?_ ?_|exact .d|exact .row rfl rfl|fail)
 exact Aiz hi rfl
theorem LF {s:Sta} {slot:Int} {c:TC} (h1:(CA s slot c).kind=1) (h2:(CA s slot c).BM=1):
  c.kind=1/\c.send=true/\∃i,Kv s.held c.BR=some i/\¬(s.held.getD i default).til<slot/\((s.held.getD i default).AH.any fun y=>decide (c.peer=y))=false/\CA s slot c={AhA s c (s.held.getD i default) with offset:=c.offset}:=by
 have hz:∀a:Ac,(QX a c.offset).kind=a.kind:=fun a=>by unfold QX;split<;>rfl
 have hf:∀a:Ac,(QX a c.offset).BM=a.BM:=fun a=>by unfold QX;split<;>rfl
 unfold CA at h1 h2 ⊢;rw[hz] at h1;rw[hf] at h2;unfold GU at h1 h2 ⊢;by_cases k1:c.kind=1
 ·rw[Akc k1] at h1 h2 ⊢;unfold RJ at h1 h2 ⊢;cases hsd:c.send with
  |false=>rw[hsd,Akc rfl] at h1;cases h1
  |true=>
   rw[hsd,Akb (by simp)] at h1 h2;rw[Akb (by simp)];cases hh:Kv s.held c.BR with
   |none=>rw[hh] at h1;cases h1
   |some i=>
    rw[hh] at h1 h2;dsimp only at h1 h2 ⊢
    split at h1
    ·cases h1
    ·rename_i hn;have h3:¬(s.held.getD i default).til<slot:=fun h=>hn (.inl h)
     have h4:((s.held.getD i default).AH.any fun y=>decide (c.peer=y))=false:=by
      cases h:(s.held.getD i default).AH.any fun y=>decide (c.peer=y) with
      |true=>exact absurd (.inr h) hn
      |false=>rfl
     refine⟨k1,rfl,i,rfl,h3,h4,?_⟩;rw[Akb hn];exact Lq (by intro h;cases h)
 ·rw[Akb k1] at h1 h2;by_cases k2:c.kind=2
  ·rw[Akc k2] at h1 h2;unfold XA at h1 h2
   split at h1
   ·cases h1
   ·rename_i hsd;rw[Akb hsd] at h2
    split at h1
    ·rename_i hq;rw[Akc hq] at h2;cases h2
    ·cases h1
  ·rw[Akb k2] at h1 h2;by_cases k3:c.kind=3
   ·rw[Akc k3] at h1 h2;unfold XB at h1 h2
    split at h1
    ·rename_i hq;rw[Akc hq] at h2;cases h2
    ·cases h1
   ·rw[Akb k3] at h1;cases h1
theorem AgY {σ:St} {f:Nat->Nat} {L:List Nat} {T i nm:Nat} {l:List Hd} {c c0:C} {x:List Int} (hi:i<l.length) (hc:CW σ f L c (.d (ints x))):
  BW σ f L (.row T 5 ((Eh l i nm).set i (EJ (Ab5 (l.getD i default) c0) 4 [c]))) (.row T 5 (rowOf Hd.enc (l.set i {l.getD i default with AH:=x}))):=by
 unfold Eh;rw[UN];refine LB (by simp[An]) fun j hj a b ha hb=>?_
 rw[An,AjJ] at hj;rw[Cr (by rw[AjJ];exact hj)] at hb;by_cases hji:j=i
 ·subst hji;rw[Kg (Cr hi)] at ha;rw[Ajt,List.getElem?_set_self hi] at hb;injection ha with ha;subst ha
  injection hb with hb;subst hb
  exact .cons .d (.cons .d (.cons .d (.cons .d (.cons hc .nil))))
 ·rw[AjR (fun e=>hji e.symm),Cr hj] at ha;rw[Ajt,AjR (fun e=>hji e.symm),<-Ajt] at hb;injection ha with ha;subst ha
  injection hb with hb;subst hb
  exact Lx _
theorem Ab0 (s:Sta) (slot:Int) (r:Rs) (hck:AU s=0) (hs:0<=slot/\slot<=109951162) (k1:(CA s slot (atM s.tb slot).1).kind=1) (k2:(CA s slot (atM s.tb slot).1).BM=1) (hac:r.AH=true):
  Ak 130 [stA s,AI slot,rsA r] (.tup [stA (Cp s slot (atM s.tb slot).1 r).1,upA (Cp s slot (atM s.tb slot).1 r).2,AI 0]):=by
 have e:Cp s slot (atM s.tb slot).1 r=(Ack s (CA s slot (atM s.tb slot).1),zUp):=by rw[Cp,Akc ⟨k1,k2⟩,Akc hac]
 obtain⟨_,_,i,hf,_,hna,ha⟩:=LF k1 k2;obtain⟨hi,hfl,_⟩:=Bs hf;have hfl:=AjT hfl;have hHl:=(Ds (Ba hck).2.2.2.1).2 i hi;have hrg:=(DE hHl.1).2.2.2.2.2.2;have hal:=GQ hrg;have hri:OA id (s.held.getD i default).AH:=L6 fun j hj h0=>(Gq hrg j hj).2.2 h0
 have hst:=SW s slot hck hs i hi;have hao:=CH s slot (atM s.tb slot).1 hck;have hho:=Ku s slot (atM s.tb slot).1 (CA s slot (atM s.tb slot).1).BR;rw[e];generalize atM s.tb slot=ac at *;obtain⟨c,ok⟩:=ac;dsimp only at *;have hfw:(CA s slot c).BR=c.BR:=by rw[ha];exact hfl
 have htg:(CA s slot c).target=c.peer:=by rw[ha];rfl
 have hfd:fdK id (s.held.getD i default).AH (CA s slot c).target=false:=by
  rw[AeP hri,htg];rw[<-hna];exact congrArg (fun p=>(s.held.getD i default).AH.any p) (funext fun y=>decide_eq_decide.2 eq_comm)
 rw[hfw,hf] at hho;have hho':Ak 175 [wP s slot c,AI c.BR] (AI (i:Nat)):=hho;rw[<-hfw] at hho';have d1:decide ((CA s slot c).kind=1)=true:=Aju k1;have d2:decide ((CA s slot c).BM=1)=true:=Aju k2;have e1:Ack s (CA s slot c)={s with held:=s.held.set i {s.held.getD i default with AH:=GI id (s.held.getD i default).AH (CA s slot c).target}}:=by
  rw[Ack,hfw,hf]
 rw[e1];have hins:=AbD (s.held.getD i default).AH (CA s slot c).target (by omega) hri hfd;have hul:(GI id (s.held.getD i default).AH (CA s slot c).target).length=(s.held.getD i default).AH.length+1:=by
  have:=AaR (k:=id) (x:=(CA s slot c).target) hri;rw[this,Akb (by show ¬fdK id _ (CA s slot c).target=true;rw[hfd];simp)]
 refine Ao func130 ntmps130 results130 fun E hS=>?_
 refine AG ?_
 repeat'(first|refine AJ ?_|refine Aa (hst) ?_ (hwf:=by(simp only[BC,wfL,Bj,wfs,BB hi,AA,Az];rfl)) (hU:=by((simp only[Fs,Akq,Aku,Blk.shift,FH,MF])<;>rfl))|refine sq 4 rfl ?_|fail)
 refine VC.le (σ':=AN [(5,.c (.ptr 5 0)),(6,.c (.ptr 6 0)),(7,.c (.ptr 7 0)),(8,AI 0),(9,.c (.ptr 100 0))] [(5,.box r.cs),(6,.box noS.cs),(7,.box zUp.cs),(100,.box (wcs s (.row 101 s.held.length) (.row 102 s.seen.length) slot c)),(101,.row 110 5 (Eh s.held i 103)),(102,.row 123 2 (rowOf Sn.enc s.seen)),(103,.row 3 1 (rowOf FT.enc (s.held.getD i default).AH))]) ?_ ?_
 ·refine A0 (fun n=>if n=100 then 19100 else if n=102 then 19102 else if n=101 then 19101 else if n=103 then 19103 else n) ?_ ?_ rfl (by(simp only[wfL,wfs,AA,Az,BB hi];rfl))
  all_goals repeat'(first|exact tt0|refine⟨⟨_,rfl,?_⟩,?_⟩|exact .c .d|exact .c (.ptr rfl)|exact .FA rfl rfl|exact .CJ rfl Ai|refine .box ?_|exact .nil|refine .cons ?_ ?_|exact .d|exact .row rfl rfl|fail)
  exact Aiz hi rfl
 repeat'(first|refine Af ?_|refine EN (gk rfl) rfl rfl rfl rfl rfl rfl (by omega) (Gx.symm▸hi) rfl ?_|refine FC (gk rfl) rfl rfl (Iq hi) rfl rfl rfl ?_|refine Du (gk rfl) rfl rfl rfl (Iq hi) rfl rfl rfl ?_|refine Cd [100,101,102,103] (hao) (gk rfl) rfl (by(repeat'(first|exact .nil|refine .cons ?_ ?_|exact(Afw (by simp) rfl (Vw hi (by simp) rfl (by simp) rfl rfl) (CL (by simp) rfl rfl (fun _=>rfl)))))<;>fail) (by rfl) rfl (by rfl) rfl (by exact Ie) rfl ?_|refine Cd [100,101,102,103] (hho') (gk rfl) rfl (by(repeat'(first|exact .nil|refine .cons ?_ ?_|exact .of0 (.c .d)|exact(Afw (by simp) rfl (Vw hi (by simp) rfl (by simp) rfl rfl) (CL (by simp) rfl rfl (fun _=>rfl)))))<;>fail) (by rfl) rfl (by rfl) rfl (by exact Ie) rfl ?_|refine Cx [] (hins) Ai ?_ (hwf:=by(simp only[BC,wfL,Bj,wfs,BB hi,AA,Az];rfl))|refine EH (gk rfl) rfl rfl ?_|refine B8 ?_|fail)
 refine GR (σ1:=AN [(6,.c (.ptr 6 0)),(7,.c (.ptr 7 0)),(8,AI 0)] [(6,.box (s.csR (.row 101 s.held.length) (.row 102 s.seen.length))),(7,.box zUp.cs),(101,.row 110 5 (rowOf Hd.enc (s.held.set i {s.held.getD i default with AH:=GI id (s.held.getD i default).AH (CA s slot c).target}))),(102,.row 123 2 (rowOf Sn.enc s.seen))]) ?_ ?_
 ·refine DL (fun n=>n) [61001] hS ?_ ?_ rfl (by(simp only[wfL,wfs,AA,Az,BB hi];rfl))
  all_goals repeat'(first|exact tt0|refine⟨⟨_,rfl,?_⟩,?_⟩|exact .c .d|exact .c (.ptr rfl)|exact .FA rfl rfl|exact .CJ rfl Ai|refine .box ?_|exact .nil|refine .cons ?_ ?_|exact .d|exact .row rfl rfl|fail)
  exact AgY hi (.Bm (enc:=FT.enc) (by simp) rfl hul.symm (fun _=>rfl))
 exact Ag (Cu (l:=[(6,.c (.ptr 6 0)),(7,.c (.ptr 7 0)),(8,AI 0)]) (b:=[(6,.box (Sta.cs {s with held:=s.held.set i {s.held.getD i default with AH:=GI id (s.held.getD i default).AH (CA s slot c).target}})),(7,.box zUp.cs)]) (fun n=>n) [101,102] hS) AE
theorem ZZ (s:Sta) (slot:Int) (r:Rs):Ak 130 [stA s,AI slot,rsA r] (.tup [stA (ED s slot r).1,upA (ED s slot r).2.1,AI (ED s slot r).2.2]):=by
 by_cases hck:AU s=0
 ·by_cases hs:0<=slot/\slot<=109951162
  ·have e:ED s slot r=((Cp s slot (atM s.tb slot).1 r).1,(Cp s slot (atM s.tb slot).1 r).2,0):=by rw[ED,Akb (by omega),Akb (by omega)]
   rw[e];by_cases h:(CA s slot (atM s.tb slot).1).kind=1/\(CA s slot (atM s.tb slot).1).BM=1/\r.AH=true
   ·exact Ab0 s slot r hck hs h.1 h.2.1 h.2.2
   ·exact Z1 s slot r hck hs h
  ·have e:ED s slot r=(noS,zUp,2):=by rw[ED,Akb (by omega),Akc (by omega)]
   rw[e];exact Xg s slot r hck hs
 ·have e:ED s slot r=(noS,zUp,1):=by rw[ED,Akc hck]
  rw[e];exact AbZ s slot r hck
end Go.Proofs
namespace Go.Proofs.M
open Go Go.Sx Go.Proofs Go.Proofs.T Go.Proofs.Q
open Go.Proofs.P (Nb nbs Rk rkA rkErr checkNb hearM countM forgetM select')
open Go.Proofs.R (startM advM)
attribute [local irreducible] VR VC thenQ blockQ retL
theorem Wy (slot turns:Int) (nv:D) (loads:List Ld) (sil:List Si) (arr:List Ar) (w:Wk):PhS 91 slot turns nv loads sil arr w (Xe slot arr w).2:=by
 have hm:=ZZ w.nd.st slot w.rs;intro r;simp only[Ch,Akq,Aku,Akt,Akp,Nat.reduceAdd];refine FnS.Bv (enters_of func91 (by kernel_rfl) rfl) func91 rfl ntmps91 results91 rfl (by first|rfl|(simp only[BC,wfL,Bj,wfs,AA,Az];rfl)) rfl fun E=>?_
 refine AG ?_;show VC E _ (retL E (Gk Tryz.prog _ _ [(9100,.pin 100 (r 100)),(9101,.pin 101 (r 101)),(9102,.pin 102 (r 102)),(100,.box [.d (.int .i64 slot),.d (.int .i64 turns),.d nv,.d (lds loads),.d (sis sil),.row 102 arr.length]),(101,.box (Wk.cs (Dh slot w))),(102,.row 62 3 (rowOf Ar.enc arr))])) _;cases hb:w.bc with
 |true=>
  have e:Dh slot w=w:=by unfold Dh;rw[Akc hb]
  rw[e]
  repeat'(first|refine Ad ?_|fail)
  exact DA
 |false=>
  by_cases h:(ED w.nd.st slot w.rs).2.2=0
  ·have d1:=Aju h;have e:Dh slot w=⟨⟨(ED w.nd.st slot w.rs).1,w.nd.rk,w.nd.nb,w.nd.next⟩,w.node,w.ac,w.bc,w.rs,(ED w.nd.st slot w.rs).2.1⟩:=by unfold Dh;rw[Akb (by rw[hb];simp),Akc h]
   rw[e]
   repeat'(first|refine Ad ?_|refine Aa (hm) ?_|fail)
   exact DA
  ·have d1:=Ajv h;have e:Dh slot w=w:=by unfold Dh;rw[Akb (by rw[hb];simp),Akb h]
   rw[e]
   repeat'(first|refine Ad ?_|refine Aa (hm) ?_|fail)
   exact DA
end Go.Proofs.M
namespace Go.Proofs.M
open Go Go.Sx Go.Proofs Go.Proofs.T Go.Proofs.Q
attribute [local irreducible] VR VC thenQ blockQ retL
def beR (t:Tb) (turns:Int):Bool:=decide (BV t=0)&&decide (1<=turns)&&decide (turns<=32)
theorem R6 (t:Tb) (turns:Int):Ak 223 [tbA t,AI turns] (AB (beR t turns)):=by
 have hck:=EE t;refine Ao func223 ntmps223 results223 fun E hS=>?_
 repeat'(first|refine Ad ?_|refine Aa (hck) ?_|(refine Av ?_ ?_<;>intro h hq)|fail)
 all_goals(refine Aq Ae rfl ?_;unfold beR)
 all_goals first
  |(simp_all;done)
  |(simp_all;omega)
  |trace_state
theorem MS {p:TC->Bool} {a:TC} (h:p a=true):[a].filter p=[a]:=by simp[h]
theorem MT {p:TC->Bool} {a:TC} (h:p a=false):[a].filter p=[]:=by simp[h]
theorem KH {t:Tb} {k:Nat} (hk:k<t.cells.length):((t.cells.take (k+1)).filter fun c=>decide (c.kind=3))=((t.cells.take k).filter fun c=>decide (c.kind=3))++(if(t.cells.getD k default).kind=3 then[t.cells.getD k default] else[]):=by
 rw[Bq hk,Akw]
 congr 1
 split
 ·rename_i h;exact MS (Aju h)
 ·rename_i h;exact MT (Ajv h)
def Xl (t:Tb) (k:Nat):Nat:=((t.cells.take k).filter fun c=>decide (c.kind=3)).length
theorem Uj (t:Tb) (k:Nat):Xl t k<=t.cells.length:=by
 unfold Xl;have h1:=Aj4 (fun c:TC=>decide (c.kind=3)) (t.cells.take k);rw[AjD] at h1;omega
theorem RT {t:Tb} {k:Nat} (hk:k<t.cells.length):Xl t (k+1)=if(t.cells.getD k default).kind=3 then Xl t k+1 else Xl t k:=by
 unfold Xl;rw[KH hk,Ajy]
 split<;>rfl
theorem PL (t:Tb) (hl:t.cells.length<=512):FnS Tryz.prog 224 [tbA t] [] (.tup [.fnc 274 [.ptr 1 0],AI (Co t).length]) [(1,.box t.cs)]:=by
 refine Ao func224 ntmps224 results224 fun E hS=>?_
 repeat'(first|refine Af ?_|fail)
 refine Er t.cells.length (fun k=>AN [(1,.c (.ptr 1 0)),(4,AI (Xl t k)),(8,AD (tcs t.cells)),(9,AI t.cells.length),(10,AI k)] [(1,.box t.cs)]) ?_ ?_
 ·exact Al
 ·intro k hk;have hcl:=Uj t k;by_cases hc:k<t.cells.length
  ·have hs:=RT hc;have hdd:=Cz k t.cells.length;by_cases h3:(t.cells.getD k default).kind=3
   ·rw[Akc h3] at hs;have d3:=Aju h3
    repeat'(first|refine Af ?_|fail)
    refine BU (k+1) ?_;rw[hs];exact Al
   ·rw[Akb h3] at hs;have d3:=Ajv h3
    repeat'(first|refine Af ?_|fail)
    refine BU (k+1) ?_;rw[hs];exact Al
  ·have hdd:=CM k t.cells.length;have e:Xl t k=(Co t).length:=by unfold Xl Co;rw[Aj1 (by omega)]
   repeat'(first|refine Ad ?_|fail)
   rw[e];exact⟨Ae,[.fnc 274 [.ptr 1 0],AI (Co t).length],.tmp rfl rfl (.tmp rfl rfl .nil),rfl,fun p hp=>by
    rw[AjI] at hp;subst hp;rfl⟩
def SA (t:Tb) (q:Int) (k:Nat):Nat:=(((t.cells.take k).filter fun c=>decide (c.kind=3)).filter fun c=>decide (c.slot<q)).length
theorem Aal (t:Tb) (q:Int) (k:Nat):SA t q k<=t.cells.length:=by
 have h1:=Aj4 (fun c:TC=>decide (c.slot<q)) ((t.cells.take k).filter fun c=>decide (c.kind=3));have:=Uj t k;unfold SA;unfold Xl at this;omega
theorem Nd {t:Tb} {q:Int} {k:Nat} (hk:k<t.cells.length):SA t q (k+1)=if(t.cells.getD k default).kind=3/\(t.cells.getD k default).slot<q then SA t q k+1 else SA t q k:=by
 unfold SA;rw[KH hk,Akw,Ajy];by_cases h1:(t.cells.getD k default).kind=3
 ·rw[Akc h1];by_cases h2:(t.cells.getD k default).slot<q
  ·rw[Akc ⟨h1,h2⟩,MS (p:=fun c=>decide (c.slot<q)) (Aju h2)];rfl
  ·rw[Akb (fun h=>h2 h.2),MT (p:=fun c=>decide (c.slot<q)) (Ajv h2)];rfl
 ·rw[Akb h1,Akb (fun h=>h1 h.1)];rfl
def Agz (t:Tb) (q:Int) (k:Nat):Prop:=∀i,i<k->¬((t.cells.getD i default).kind=3/\(t.cells.getD i default).slot=q)
theorem Ps (t:Tb) (q:Int):MD t q=true↔∃i,i<t.cells.length/\(t.cells.getD i default).kind=3/\(t.cells.getD i default).slot=q:=by
 unfold MD Co;rw[AjM];constructor
 ·rintro⟨c,hc,hq⟩;obtain⟨h1,h2⟩:=Aj3.1 hc;obtain⟨i,hi,e⟩:=AjY.1 h1;refine⟨i,hi,?_⟩;have e2:t.cells.getD i default=c:=by rw[Ajt,AjC hi];exact e
  rw[e2];exact⟨AjT h2,AjT hq⟩
 ·rintro⟨i,hi,h1,h2⟩;refine⟨t.cells.getD i default,Aj3.2 ⟨?_,Aju h1⟩,Aju h2⟩;rw[Ajt,AjC hi];exact AjZ hi
theorem Ae4 {t:Tb} (hs:Srt t.cells) {q:Int} {k:Nat} (hk:k<t.cells.length) (hq:(t.cells.getD k default).slot=q):SA t q k=Fc t q:=by
 have key:∀m,k<=m->m<=t.cells.length->SA t q m=SA t q k:=by
  intro m hm
  induction m with
  |zero=>intro _;rw[show k=0 by omega]
  |succ m ih=>
   intro hl;rcases Akf k (m+1) with h1|h1
   ·rw[Nd (by omega),Akb,ih (by omega) (by omega)];rintro⟨_,h2⟩;rcases Akf k m with h3|h3
    ·have:=JO.1 (hs k m h3 (by omega));omega
    ·rw[show m=k by omega] at h2;omega
   ·rw[show k=m+1 by omega]
 have:=key t.cells.length (by omega) (Akd _);rw[<-this];unfold SA Fc Co;rw[Aj1 (Akd _)]
theorem Qp (t:Tb) (q:Int) (hc:BV t=0):Ak 274 [AI q,.ep (fun j=>[D.int .i64 t.node,.int .i64 t.len,tcs t.cells].getD j .Df) 3] (.tup [AI (Fc t q),AB (MD t q)]):=by
 have hl:=(B4 hc).1;have hs:=Ou hc;refine Ao func274 ntmps274 results274 fun E hS=>?_
 repeat'(first|refine Af ?_|fail)
 refine Ax (ι:=Nat) (fun k=>AN [(0,AI q),(3,AI 0),(4,AB false),(5,AI (SA t q k)),(9,AD (tcs t.cells)),(10,AI t.cells.length),(11,AI k)] []) (fun k=>k<=t.cells.length/\Agz t q k) (fun k=>t.cells.length-k) 0 ⟨Ake _,fun i hi=>absurd hi (Aj9 _)⟩ ?_ ?_
 ·exact Al
 ·rintro k ⟨hk,hn⟩;have hbl:=Aal t q k;by_cases hc:k<t.cells.length
  ·have hb:=Nd (q:=q) hc;have hdd:=Cz k t.cells.length;have next:¬((t.cells.getD k default).kind=3/\(t.cells.getD k default).slot=q)->Agz t q (k+1):=fun h i hi=>by
    rcases Akf i k with h1|h1
    ·exact hn i h1
    ·rw[show i=k by omega];exact h
   by_cases h3:(t.cells.getD k default).kind=3
   ·have d3:decide ((t.cells.getD k default).kind≠3)=false:=Ajv (by simpa using h3);by_cases h4:q<(t.cells.getD k default).slot
    ·have d4:=Aju h4;rw[Akb (by omega)] at hb
     repeat'(first|refine Af ?_|fail)
     refine⟨k+1,⟨by omega,next (by omega)⟩,by omega,?_⟩;rw[hb];exact Al
    ·have d4:=Ajv h4;by_cases h5:(t.cells.getD k default).slot=q
     ·have d5:=Aju h5;have e1:=Ae4 hs hc h5;have e2:MD t q=true:=(Ps t q).2 ⟨k,hc,h3,h5⟩;rw[<-e1,e2]
      repeat'(first|refine Af ?_|fail)
      exact Bg
     ·have d5:=Ajv h5;rw[Akc (by omega)] at hb
      repeat'(first|refine Af ?_|fail)
      refine⟨k+1,⟨by omega,next (by omega)⟩,by omega,?_⟩;rw[hb];exact Al
   ·have d3:decide ((t.cells.getD k default).kind≠3)=true:=Aju h3;rw[Akb (by omega)] at hb
    repeat'(first|refine Af ?_|fail)
    refine⟨k+1,⟨by omega,next (by omega)⟩,by omega,?_⟩;rw[hb];exact Al
  ·have hdd:=CM k t.cells.length;have e1:SA t q k=Fc t q:=by unfold SA Fc Co;rw[Aj1 (by omega)]
   have e2:MD t q=false:=by
    cases h:MD t q with
    |false=>rfl
    |true=>
     obtain⟨i,hi,h1,h2⟩:=(Ps t q).1 h;exact absurd ⟨h1,h2⟩ (hn i (by omega))
   rw[<-e1,e2]
   repeat'(first|refine Ad ?_|fail)
   exact Bg
theorem R7 (t:Tb) (q:Int):Fc t q<=t.cells.length:=by
 have h1:=Aj4 (fun c:TC=>decide (c.slot<q)) (Co t);have h2:=Aj4 (fun c:TC=>decide (c.kind=3)) t.cells;unfold Fc;unfold Co at h1 ⊢;omega
theorem AfR {σ:St} {L:List Nat} {nm:Nat} {t:Tb} (hL:nm∈L) (hb:σ (.b nm)=some (.k (.box t.cs))):AR Tryz.prog σ L (.c (.ptr nm 0)) (.ep (fun j=>[D.int .i64 t.node,.int .i64 t.len,tcs t.cells].getD j .Df) 3):=
 .of0 (.ptr hL hb (fun j hj=>by
  have:j=0\/j=1\/j=2:=by omega
  rcases this with rfl|rfl|rfl<;>rfl))
theorem XT (t:Tb) (slot turns:Int) (hs:slot<=109951162):Ak 166 [tbA t,AI slot,AI turns] (.tup [AI (Eb t slot turns).1,AB (Eb t slot turns).2]):=by
 have hr:=R6 t turns;refine Ao func166 ntmps166 results166 fun E hS=>?_
 cases hb:beR t turns with
 |false=>
  rw[hb] at hr;have e:Eb t slot turns=(0,false):=by
   unfold Eb;rw[Akc];unfold beR at hb;by_cases h1:BV t=0
   ·by_cases h2:1<=turns
    ·by_cases h3:turns<=32
     ·simp[h1,h2,h3] at hb
     ·omega
    ·omega
   ·exact .inl h1
  rw[e]
  repeat'(first|refine Ad ?_|refine Aa (hr) ?_|fail)
  exact Bg
 |true=>
  rw[hb] at hr;unfold beR at hb;simp only[AjE,Ajw] at hb;obtain⟨⟨hc,h1⟩,h2⟩:=hb;have hl:=B4 hc;by_cases h0:slot<0
  ·have d0:=Aju h0;have e:Eb t slot turns=(0,false):=by unfold Eb;rw[Akc (by omega)]
   rw[e]
   repeat'(first|refine Ad ?_|refine Aa (hr) ?_|fail)
   exact Bg
  ·have d0:=Ajv h0;have hsh:=PL t hl.1;have hs1:=Qp t (slot % t.len) hc;have hbf:=R7 t (slot % t.len);have hcn:(Co t).length<=512:=by
    have:=Aj4 (fun c:TC=>decide (c.kind=3)) t.cells;unfold Co;omega
   cases hh:MD t (slot % t.len) with
   |false=>
    rw[hh] at hs1;have e:Eb t slot turns=(0,false):=by unfold Eb;rw[Akb (by omega),Akc hh]
    rw[e]
    repeat'(first|refine Ad ?_|refine Aa (hr) ?_|refine A1 (nmL []) [] [] (FnS.toW hsh) ?_|refine UD [22001] (hs1) (gk rfl) rfl rfl (by(repeat'(first|exact .nil|refine .cons ?_ ?_|exact .of0 (.c .d)|exact(AfR (by simp) rfl)))<;>fail) rfl rfl rfl rfl rfl ?_|fail)
    exact Bg
   |true=>
    rw[hh] at hs1;have e:Eb t slot turns=((slot/t.len % turns*(Co t).length+Fc t (slot % t.len)) % turns,true):=by unfold Eb;rw[Akb (by omega),Akb (by rw[hh];simp)]
    have q1:0<=slot/t.len:=Int.ediv_nonneg (by omega) (by omega);have q2:0<=slot/t.len % turns:=Int.emod_nonneg _ (by omega);have q3:slot/t.len % turns<turns:=Int.emod_lt_of_pos _ (by omega);have q4:0<=slot/t.len % turns*((Co t).length:Int):=Int.mul_nonneg q2 (by omega);have q5:slot/t.len % turns*((Co t).length:Int)<=32*512:=Int.mul_le_mul (by omega) (by omega) (by omega) (by omega);have q6:slot/t.len<=slot:=Int.ediv_le_self _ (by omega);rw[e]
    repeat'(first|refine Ad ?_|refine Aa (hr) ?_|refine A1 (nmL []) [] [] (FnS.toW hsh) ?_|refine UD [22001] (hs1) (gk rfl) rfl rfl (by(repeat'(first|exact .nil|refine .cons ?_ ?_|exact .of0 (.c .d)|exact(AfR (by simp) rfl)))<;>fail) rfl rfl rfl rfl rfl ?_|fail)
    exact Bg
theorem AbY (t:Tb) (slot turns:Int) (hs:slot<=109951162):Ak 123 [tbA t,AI slot,AI turns] (AB (K5 t slot turns)):=by
 have ha:=PM t slot;have ht:=XT t slot turns hs;refine Ao func123 ntmps123 results123 fun E hS=>?_
 cases h1:(atM t slot).2 with
 |false=>
  have e:K5 t slot turns=false:=by unfold K5;rw[h1];rfl
  rw[h1] at ha;rw[e]
  repeat'(first|refine Ad ?_|refine Aa (ha) ?_|refine Aa (ht) ?_|fail)
  exact AO
 |true=>
  rw[h1] at ha;cases h2:(Eb t slot turns).2 with
  |false=>
   have e:K5 t slot turns=false:=by unfold K5;rw[h1,h2];rfl
   rw[h2] at ht;rw[e]
   repeat'(first|refine Ad ?_|refine Aa (ha) ?_|refine Aa (ht) ?_|fail)
   exact AO
  |true=>
   rw[h2] at ht;by_cases h3:(atM t slot).1.kind=3
   ·have d3:=Aju h3;have e:K5 t slot turns=decide ((Eb t slot turns).1=t.node % turns):=by unfold K5;rw[h1,h2,d3];rfl
    have hr:BV t=0/\1<=turns:=by
     unfold Eb at h2
     split at h2
     ·cases h2
     ·omega
    have hn:=(B4 hr.1).2.2.2;have hn:0<=t.node/\t.node<32:=AjT hn;rw[e]
    repeat'(first|refine Ad ?_|refine Aa (ha) ?_|refine Aa (ht) ?_|fail)
    exact AO
   ·have d3:=Ajv h3;have e:K5 t slot turns=false:=by unfold K5;rw[h1,h2,d3];rfl
    rw[e]
    repeat'(first|refine Ad ?_|refine Aa (ha) ?_|refine Aa (ht) ?_|fail)
    exact AO
end Go.Proofs.M
namespace Go.Proofs.M
open Go Go.Sx Go.Proofs Go.Proofs.T Go.Proofs.Q
open Go.Proofs.P (Nb nbs Rk rkA rkErr checkNb hearM countM forgetM select')
open Go.Proofs.R (startM advM)
attribute [local irreducible] VR VC thenQ blockQ retL
theorem Abx (r:Rk) (slot:Int) (h:rkErr r=0) (hk:r.rank≠65535) (hs:0<=slot/\slot<=109951162):Ak 125 [rkA r,AI 0,AI 0,AI slot,Aen false] (.tup [frA (bcF r slot),AI 0]):=by
 obtain⟨_,_,a3,a4,a5,_⟩:=R.Sg h hk;obtain⟨n1,_,_⟩:=P.UU h;have hm:=R.Y2 r.node.toNat r.epoch.toNat r.rank.toNat slot.toNat r.parent r.heard r.least (by omega) (by omega) (by omega) (by omega);have e1:((r.node.toNat:Nat):Int)=r.node:=by omega
 have e2:((r.epoch.toNat:Nat):Int)=r.epoch:=by omega
 have e3:((r.rank.toNat:Nat):Int)=r.rank:=by omega
 have e4:((slot.toNat:Nat):Int)=slot:=by omega
 have e5:bcn r.node.toNat slot.toNat r.rank.toNat r.epoch.toNat (AaA false)=bcF r slot:=by
  unfold bcn bcF;rw[e1,e2,e3,e4]
 rw[e1,e2,e3,e4,e5] at hm;exact hm
theorem Sj {r:Rk} (h:(advM r).2.2.2=0):rkErr r=0/\r.rank≠65535:=by
 unfold advM at h
 split at h
 ·cases h
 ·rename_i h1
  split at h
  ·cases h
  ·rename_i h2;exact⟨by simpa using h1,h2⟩
theorem YF (slot turns:Int) (nv:D) (loads:List Ld) (sil:List Si) (arr:List Ar) (w:Wk) (hs:0<=slot/\slot<=109951162):PhS 89 slot turns nv loads sil arr w (AcK slot turns arr w).2:=by
 have hd:=AbY w.nd.st.tb slot turns hs.2;have ha:=R.Aas w.nd.rk;have hat:=PM w.nd.st.tb slot;have hac:=Acj w.nd.st slot;intro r;simp only[Ch,Akq,Aku,Akt,Akp,Nat.reduceAdd];refine FnS.Bv (enters_of func89 (by kernel_rfl) rfl) func89 rfl ntmps89 results89 rfl (by first|rfl|(simp only[BC,wfL,Bj,wfs,AA,Az];rfl)) rfl fun E=>?_
 refine AG ?_;show VC E _ (retL E (Gk Tryz.prog _ _ [(9100,.pin 100 (r 100)),(9101,.pin 101 (r 101)),(9102,.pin 102 (r 102)),(100,.box [.d (.int .i64 slot),.d (.int .i64 turns),.d nv,.d (lds loads),.d (sis sil),.row 102 arr.length]),(101,.box (Wk.cs (AcK slot turns arr w).2)),(102,.row 62 3 (rowOf Ar.enc arr))])) _;have hneg:¬(K5 w.nd.st.tb slot turns=true/\(advM w.nd.rk).2.2.2=0)->(AcK slot turns arr w).2=⟨w.nd,w.node,(Hs w.nd.st slot).1,w.bc,w.rs,w.up⟩:=fun h=>by
  unfold AcK DS;rw[Akb h];dsimp only;rw[AkK]
 cases h1:K5 w.nd.st.tb slot turns with
 |false=>
  rw[h1] at hd;rw[hneg (fun h=>by rw[h1] at h;cases h.1)]
  repeat'(first|refine Ad ?_|refine Aa (hd) ?_|refine Aa (hac) ?_|fail)
  exact DA
 |true=>
  rw[h1] at hd;by_cases h2:(advM w.nd.rk).2.2.2=0
  ·have d2:=Aju h2;obtain⟨g1,g2⟩:=Sj h2;have hmk:=Abx w.nd.rk slot g1 g2 hs;have hpos:(AcK slot turns arr w).2=⟨⟨w.nd.st,(advM w.nd.rk).1,w.nd.nb,w.nd.next⟩,w.node,Ahx 1 (atM w.nd.st.tb slot).1.offset (bcF w.nd.rk slot),true,w.rs,w.up⟩:=by
    unfold AcK DS;rw[Akc ⟨h1,h2⟩];dsimp only;rw[Bool.or_true]
   rw[hpos]
   repeat'(first|refine Ad ?_|refine Aa (hd) ?_|refine Aa (ha) ?_|refine Aa (hmk) ?_|refine Aa (hat) ?_|fail)
   exact DA
  ·have d2:=Ajv h2;rw[hneg (fun h=>h2 h.2)]
   repeat'(first|refine Ad ?_|refine Aa (hd) ?_|refine Aa (ha) ?_|refine Aa (hac) ?_|fail)
   exact DA
theorem Wu (slot turns:Int) (nv:D) (loads:List Ld) (sil:List Si) (arr:List Ar) (w:Wk):PhS 92 slot turns nv loads sil arr w (AbT slot arr w).2:=by
 have hh:=P.Zu w.nd.nb w.rs.source w.rs.epoch w.rs.rank slot;intro r;simp only[Ch,Akq,Aku,Akt,Akp,Nat.reduceAdd];refine FnS.Bv (enters_of func92 (by kernel_rfl) rfl) func92 rfl ntmps92 results92 rfl (by first|rfl|(simp only[BC,wfL,Bj,wfs,AA,Az];rfl)) rfl fun E=>?_
 refine AG ?_;show VC E _ (retL E (Gk Tryz.prog _ _ [(9100,.pin 100 (r 100)),(9101,.pin 101 (r 101)),(9102,.pin 102 (r 102)),(100,.box [.d (.int .i64 slot),.d (.int .i64 turns),.d nv,.d (lds loads),.d (sis sil),.row 102 arr.length]),(101,.box (Wk.cs (En (Dm slot w)))),(102,.row 62 3 (rowOf Ar.enc arr))])) _
 repeat'(first|refine AJ ?_|refine sq 1 rfl ?_|fail)
 refine Gi [(0,.c (.ptr 100 0)),(1,.c (.ptr 101 0)),(4,.c (.ptr 4 0))] [(9100,.pin 100 (r 100)),(9101,.pin 101 (r 101)),(9102,.pin 102 (r 102)),(100,.box [.d (.int .i64 slot),.d (.int .i64 turns),.d nv,.d (lds loads),.d (sis sil),.row 102 arr.length]),(101,.box (Wk.cs w)),(102,.row 62 3 (rowOf Ar.enc arr)),(4,.box (Ah7 w.rs).cs)] ?_;refine Et (AN [(0,.c (.ptr 100 0)),(1,.c (.ptr 101 0))] [(9100,.pin 100 (r 100)),(9101,.pin 101 (r 101)),(9102,.pin 102 (r 102)),(100,.box [.d (.int .i64 slot),.d (.int .i64 turns),.d nv,.d (lds loads),.d (sis sil),.row 102 arr.length]),(101,.box (Wk.cs (Dm slot w))),(102,.row 62 3 (rowOf Ar.enc arr))]) ?_ ?_
 ·cases h1:w.rs.heard with
  |false=>
   rw[show Dm slot w=w from Akb (fun h=>by rw[h1] at h;cases h.1)]
   repeat'(first|refine Ad ?_|fail)
   exact Al
  |true=>
   by_cases h2:w.rs.BM=3
   ·have d2:=Aju h2;by_cases h3:(hearM w.nd.nb w.rs.source w.rs.epoch w.rs.rank slot).2=0
    ·have d3:=Aju h3;rw[show Dm slot w={w with nd:={w.nd with nb:=(hearM w.nd.nb w.rs.source w.rs.epoch w.rs.rank slot).1}} from Akc ⟨h1,h2,h3⟩]
     repeat'(first|refine Ad ?_|refine Aa (hh) ?_|fail)
     exact Al
    ·have d3:=Ajv h3;rw[show Dm slot w=w from Akb (fun h=>h3 h.2.2)]
     repeat'(first|refine Ad ?_|refine Aa (hh) ?_|fail)
     exact Al
   ·have d2:=Ajv h2;rw[show Dm slot w=w from Akb (fun h=>h2 h.2.1)]
    repeat'(first|refine Ad ?_|fail)
    exact Al
 generalize Dm slot w=v;have hc:=P.Xh v.nd.nb v.ac.target v.rs.AH
 repeat'(first|refine AJ ?_|refine sq 6 rfl ?_|fail)
 refine Gi [(0,.c (.ptr 100 0)),(1,.c (.ptr 101 0)),(7,.c (.ptr 7 0))] [(9100,.pin 100 (r 100)),(9101,.pin 101 (r 101)),(9102,.pin 102 (r 102)),(100,.box [.d (.int .i64 slot),.d (.int .i64 turns),.d nv,.d (lds loads),.d (sis sil),.row 102 arr.length]),(101,.box (Wk.cs v)),(102,.row 62 3 (rowOf Ar.enc arr)),(7,.box v.ac.cs)] ?_;by_cases k:v.ac.kind=1/\v.ac.BM=4/\0<=v.ac.target
 ·have e1:decide (v.ac.kind=1)=true:=Aju k.1;have e2:decide (v.ac.BM=4)=true:=Aju k.2.1;have e3:decide (0<=v.ac.target)=true:=Aju k.2.2;by_cases k4:(countM v.nd.nb v.ac.target v.rs.AH).2=0
  ·have e4:=Aju k4;rw[show En v={v with nd:={v.nd with nb:=(countM v.nd.nb v.ac.target v.rs.AH).1}} from Akc ⟨k.1,k.2.1,k.2.2,k4⟩]
   repeat'(first|refine Ad ?_|refine Aa (hc) ?_|fail)
   exact DA
  ·have e4:=Ajv k4;rw[show En v=v from Akb (fun h=>k4 h.2.2.2)]
   repeat'(first|refine Ad ?_|refine Aa (hc) ?_|fail)
   exact DA
 ·rw[show En v=v from Akb (fun h=>k ⟨h.1,h.2.1,h.2.2.1⟩)]
  repeat'(first|refine Ad ?_|(refine Av ?_ ?_<;>intro h hq)|fail)
  all_goals try (exfalso;omega)
  all_goals
   exact DA
def Mx (slot:Int) (loads:List Ld) (w:Wk) (k:Nat):MN:=E9 slot w.node (loads.take k) w.nd
theorem WJ {slot:Int} {loads:List Ld} {w:Wk} {k:Nat} (hk:k<loads.length):Mx slot loads w (k+1)=if(loads.getD k default).slot=slot/\(loads.getD k default).node=w.node/\w.node≠0 then G8 slot (Mx slot loads w k) (PE w.node (Mx slot loads w k).next) else Mx slot loads w k:=by
 unfold Mx;rw[Bq hk,Kr]
theorem Ww (slot turns:Int) (nv:D) (loads:List Ld) (sil:List Si) (arr:List Ar) (w:Wk) (hx:0<=w.nd.next/\w.nd.next<=65535) (hn:0<=w.node/\w.node<=31) (hl:loads.length<=100000):PhS 88 slot turns nv loads sil arr w (ZR slot loads arr w).2:=by
 intro r;simp only[Ch,Akq,Aku,Akt,Akp,Nat.reduceAdd];refine FnS.Bv (enters_of func88 (by kernel_rfl) rfl) func88 rfl ntmps88 results88 rfl (by first|rfl|(simp only[BC,wfL,Bj,wfs,AA,Az];rfl)) rfl fun E=>?_
 refine AG ?_;show VC E _ (retL E (Gk Tryz.prog _ _ [(9100,.pin 100 (r 100)),(9101,.pin 101 (r 101)),(9102,.pin 102 (r 102)),(100,.box [.d (.int .i64 slot),.d (.int .i64 turns),.d nv,.d (lds loads),.d (sis sil),.row 102 arr.length]),(101,.box (Wk.cs {w with nd:=E9 slot w.node loads w.nd})),(102,.row 62 3 (rowOf Ar.enc arr))])) _
 repeat'(first|refine Af ?_|fail)
 refine Ax (ι:=Nat) (fun k=>AN [(0,.c (.ptr 100 0)),(1,.c (.ptr 101 0)),(9,AD (lds loads)),(10,AI loads.length),(11,AI k)] [(9100,.pin 100 (r 100)),(9101,.pin 101 (r 101)),(9102,.pin 102 (r 102)),(100,.box [.d (.int .i64 slot),.d (.int .i64 turns),.d nv,.d (lds loads),.d (sis sil),.row 102 arr.length]),(101,.box (Wk.cs {w with nd:=Mx slot loads w k})),(102,.row 62 3 (rowOf Ar.enc arr))])
  (fun k=>k<=loads.length) (fun k=>loads.length-k) 0 (Ake _) ?_ ?_
 ·exact Al
 ·intro k hk;by_cases hc:k<loads.length
  ·have hdd:=Cz k loads.length;have hs:=WJ (slot:=slot) (w:=w) hc;have hnx:0<=(Mx slot loads w k).next/\(Mx slot loads w k).next<=65535:=HM _ hx;generalize Mx slot loads w k=x at hs hnx ⊢;have hgi:=N7 slot turns nv loads sil arr {w with nd:=x} (PE w.node x.next) hnx;by_cases h1:(loads.getD k default).slot=slot
   ·have d1:=Aju h1;by_cases h2:(loads.getD k default).node=w.node
    ·have d2:=Aju h2;by_cases h3:w.node=0
     ·have d3:decide (w.node≠0)=false:=Ajv (by simpa using h3);rw[Akb (fun h=>h.2.2 h3)] at hs
      repeat'(first|refine Af ?_|fail)
      refine BU (k+1) ?_;rw[hs];exact Al
     ·have d3:decide (w.node≠0)=true:=Aju h3;rw[Akc ⟨h1,h2,h3⟩] at hs
      repeat'(first|refine Af ?_|refine H3 (L:=[w.node % 256,x.next/256 % 256,x.next % 256]) (gk rfl) rfl rfl (by rfl) rfl rfl rfl rfl ?_|refine IZ (gk rfl) rfl rfl (by omega) (by decide) rfl ?_|refine A1 (nmL []) [] [100,101,102] (hgi) ?_|refine C3 (gk rfl) rfl ⟨_,rfl⟩ rfl rfl ?_|fail)
      refine BU (k+1) ?_;rw[hs];exact Al
    ·have d2:=Ajv h2;rw[Akb (fun h=>h2 h.2.1)] at hs
     repeat'(first|refine Af ?_|fail)
     refine BU (k+1) ?_;rw[hs];exact Al
   ·have d1:=Ajv h1;rw[Akb (fun h=>h1 h.1)] at hs
    repeat'(first|refine Af ?_|fail)
    refine BU (k+1) ?_;rw[hs];exact Al
  ·have hdd:=CM k loads.length;have e:Mx slot loads w k=E9 slot w.node loads w.nd:=by unfold Mx;rw[Aj1 (by omega)]
   rw[e]
   repeat'(first|refine Ad ?_|fail)
   exact DA
end Go.Proofs.M
