/-
  What functions of the program hand back, and plain laws on that. No condition.
-/
import Derived.Test.YtdlcbilgemnomaaGreatSxMaj
import Derived.Test.YtdlcbilgemnomaaGreatSxMak
set_option linter.unusedSimpArgs false
set_option linter.unusedVariables false
section
namespace Go.Proofs.Y
open Go Go.Sx
open Go.Proofs.P Go.Proofs.R
def AaG (r:Rk):Int:=r.epoch*65536+(65535-r.least)
structure Tree (l:List Rk):Prop where
 node:∀i,i<l.length->(l.getD i default).node=i
 par:∀i,i<l.length->(l.getD i default).parent=-1\/∃j:Nat,j<l.length/\(l.getD i default).parent=j/\AaG (l.getD i default)<AaG (l.getD j default)
theorem KI {α:Type} {p q:α->Bool} {a:α}:∀{l:List α},(∀x,p x=true->q x=true)->a∈l->q a=true->p a=false->l.countP p<l.countP q
 |[],_,h,_,_=>by cases h
 |b :: l,himp,h,hq,hp=>by
  have hle:l.countP p<=l.countP q:=List.countP_mono_left fun x _=>himp x
  rcases AgD.1 h with rfl|h
  ·rw[List.countP_cons_of_neg (by simp[hp]),List.countP_cons_of_pos hq];omega
  ·have ih:=KI himp h hq hp;by_cases hb:p b=true
   ·rw[List.countP_cons_of_pos hb,List.countP_cons_of_pos (himp b hb)];omega
   ·rw[List.countP_cons_of_neg hb];by_cases hb2:q b=true
    ·rw[List.countP_cons_of_pos hb2];omega
    ·rw[List.countP_cons_of_neg hb2];exact ih
def T6 (l:List Rk) (j:Nat):Nat:=(List.range l.length).countP fun i=>decide (AaG (l.getD j default)<AaG (l.getD i default))
theorem Yy {l:List Rk} {j i:Nat} (hi:i<l.length) (h:AaG (l.getD j default)<AaG (l.getD i default)):T6 l i<T6 l j:=
 KI (a:=i) (fun x hx=>Agj (by have:=AgI hx;omega)) (AgQ.2 hi) (Agj h) (Agk (by omega))
theorem Yz {l:List Rk} {j:Nat} (hj:j<l.length):T6 l j<l.length:=by
 have h:T6 l j<(List.range l.length).countP fun _=>true:=
  KI (a:=j) (fun x _=>rfl) (AgQ.2 hj) rfl (Agk (by omega))
 simpa using h
def YL (L:List Wk) (k:Nat):List Rk:=(List.range k).map fun i=>(L.getD i default).r
theorem Mm (L:List Wk) (k:Nat):(YL L k).length=k:=by simp[YL]
theorem PM (L:List Wk) {k i:Nat} (h:i<k):(YL L k).getD i default=(L.getD i default).r:=by simp[YL,Agi,h]
def Aee (l:List Rk) (m:Nat) (a:Int):Prop:=a=-1\/∃j:Nat,j<l.length/\a=j/\T6 l j+m<l.length
theorem Aee.step {l:List Rk} (h:Tree l) {m j:Nat} (hj:j<l.length) (hm:T6 l j+m<l.length):Aee l (m+1) (l.getD j default).parent:=by
 rcases h.par j hj with e|⟨i,hi,e,hk⟩
 ·exact .inl e
 ·have:=Yy hi hk;exact .inr ⟨i,hi,e,by omega⟩
theorem Zq {L:List Wk} {said:List Sd} {slot:Int} (h:NL L said slot):Tree (YL L L.length):=by
 refine⟨fun i hi=>?_,fun i hi=>?_⟩
 all_goals rw[Mm] at hi
 ·rw[PM L hi];exact h.node i hi
 ·rw[PM L hi];by_cases hp:(L.getD i default).r.parent=-1
  ·exact .inl hp
  ·obtain⟨j,hj,hpj,ha⟩:=h.par i hi hp;refine .inr ⟨j,by rw[Mm];exact hj,hpj,?_⟩;rw[PM L hj];obtain⟨_,_,_,_,_,_,hlt,_⟩:=J7 (h.rk i hi) hp;have l1:=(Mt (h.rk i hi)).2.2.1;have l2:=(Mt (h.rk j hj)).2.2.1;simp only[Fm,Bool.or_eq_true,Agt,Agl,C0] at l1 l2;unfold AaG;unfold AdOK at ha;omega
end Go.Proofs.Y
end
section
namespace Go.Proofs.M
open Go Go.Sx Go.Proofs Go.Proofs.T Go.Proofs.Q
open Go.Proofs.P (Nb nbs Rk rkA rkErr checkNb hearM countM forgetM select')
open Go.Proofs.R (startM advM AdAt NL Goes Mono AdOK)
def pi (x:MN):R.Wk:=⟨x.rk,x.nb⟩
theorem AcF {l:List MN} {i:Nat} (hi:i<l.length):(l.map pi).getD i default=pi (l.getD i default):=by
 simp[Agi,hi]
theorem NL.update {L L':List R.Wk} {slot2:Int} (hl:L'.length=L.length) (g:∀i,i<L.length->Goes L slot2 i (L'.getD i default)):NL L' [] slot2:=by
 have hm:∀{p e k:Int},AdAt L p e k->AdAt L' p e k:=by
  rintro p e k ⟨j,hj,hp,ha⟩;exact⟨j,by omega,hp,ha.mono (g j hj).mono⟩
 refine⟨fun i hi=>(g i (by omega)).node,fun i hi=>(g i (by omega)).rk,fun i hi=>(g i (by omega)).nb,fun i hi=>(g i (by omega)).CE,fun i hi x hx=>hm ((g i (by omega)).ad x hx),(fun s hs=>(by cases hs)),fun i hi hp=>hm ((g i (by omega)).par hp)⟩
theorem Y7 {n:Nat} {T:Tb} {i:Nat} {x:MN} {slot turns:Int} (h:RN n T i x):(DF slot turns x).1.nb=x.nb/\Mono x.rk (DF slot turns x).1.rk/\(DF slot turns x).1.rk.parent=x.rk.parent/\(DF slot turns x).1.rk.epoch=x.rk.epoch/\(DF slot turns x).1.rk.heard=x.rk.heard /\
  ((DF slot turns x).2.2=true->AdOK (DF slot turns x).1.rk x.rk.epoch x.rk.rank):=by
 unfold DF
 split
 ·rename_i hd;have hk:x.rk.rank≠65535:=fun e=>by
   have:=hd.2;unfold advM at this;rw[AgY (by have:=h.rk;omega),AgZ e] at this;cases this
  obtain⟨_,a2,_,_,_,_⟩:=R.So h.rk hk;dsimp only;rw[a2];refine⟨rfl,.inr ⟨rfl,?_⟩,rfl,rfl,rfl,fun _=>.inr ⟨rfl,?_⟩⟩
  ·show min _ _<=_;omega
  ·show min _ _<=_;omega
 ·exact⟨rfl,Mono.refl _,rfl,rfl,rfl,fun h=>(by cases h)⟩
theorem Aaa {m:Me} (loads:List Ld) (sil:List Si) (hm:BX m=0) (hs:m.slot<16384) (h:NL (m.nodes.map pi) [] m.slot):NL ((Cz m loads sil).nodes.map pi) [] (m.slot+1):=by
 obtain⟨hh,hr⟩:=C7.1 hm;have hn:=hh.n2;have h1:=hh.s1;have hsl:0<=m.slot/\m.slot<=109951162:=by omega
 have hln:(m.nodes.map pi).length=m.nodes.length:=by simp
 have hpre:∀i,(NZ m loads i).rk=(m.nodes.getD i default).rk/\(NZ m loads i).nb=(m.nodes.getD i default).nb:=fun i=>by
  have a:=Qd m.slot i loads (Jb m.slot (m.nodes.getD i default));have b:=Ads m.slot (m.nodes.getD i default);exact⟨a.1.trans b.1,a.2.trans b.2⟩
 obtain⟨L1,hL1⟩:∃L1,L1=(List.range m.nodes.length).map fun i=>pi (wk1 m loads i).nd:=⟨_,rfl⟩
 have l1:L1.length=m.nodes.length:=by rw[hL1];simp
 have at1:∀i,i<m.nodes.length->L1.getD i default=pi (wk1 m loads i).nd:=fun i hi=>by rw[hL1];exact Ct _ hi
 have N1:NL L1 [] m.slot:=by
  refine NL.update (L:=m.nodes.map pi) (by rw[l1,hln]) fun i hi=>?_
  rw[hln] at hi;have hp:=Rz (loads:=loads) (hr i hi) hsl;obtain⟨a1,a2,a3,a4,a5,_⟩:=Y7 (slot:=m.slot) (turns:=m.turns) hp;have w1:=(JR (loads:=loads) hn hsl hi (hr i hi)).1;have hpi:=AcF hi;obtain⟨q1,q2⟩:=hpre i;have e1:(pi (wk1 m loads i).nd).l=(m.nodes.getD i default).nb:=a1.trans q2;rw[at1 i hi];refine⟨w1.rn,w1.rk,w1.nb,?_,?_,?_,?_⟩
  ·rw[e1];intro x hx;have:=h.CE i (by rw[hln];exact hi);rw[hpi] at this;exact this x hx
  ·rw[e1];intro x hx;have:=h.ad i (by rw[hln];exact hi);rw[hpi] at this;exact this x hx
  ·rw[hpi];show Mono (m.nodes.getD i default).rk (DF m.slot m.turns (NZ m loads i)).1.rk;rw[<-q1];exact a2
  ·intro hpp;show AdAt _ (DF m.slot m.turns (NZ m loads i)).1.rk.parent (DF m.slot m.turns (NZ m loads i)).1.rk.epoch (DF m.slot m.turns (NZ m loads i)).1.rk.heard;have hpp:(DF m.slot m.turns (NZ m loads i)).1.rk.parent≠-1:=hpp;rw[a3,a4,a5,q1];rw[a3,q1] at hpp;have:=h.par i (by rw[hln];exact hi);rw[hpi] at this;exact this hpp
 obtain⟨L2,hL2⟩:∃L2,L2=(List.range m.nodes.length).map fun i=>pi (wk3 m loads sil i).nd:=⟨_,rfl⟩
 have l2:L2.length=m.nodes.length:=by rw[hL2];simp
 have at2:∀i,i<m.nodes.length->L2.getD i default=pi (wk3 m loads sil i).nd:=fun i hi=>by rw[hL2];exact Ct _ hi
 have N2:NL L2 [] m.slot:=by
  refine NL.update (L:=L1) (by omega) fun i hi=>?_
  rw[l1] at hi;have w1:=(JR (loads:=loads) hn hsl hi (hr i hi)).1;have w3:=Q3 (loads:=loads) (sil:=sil) hn hsl hr hi;obtain⟨d1,d2,d3,d4,d5⟩:=V7 (w:=wk2 m loads sil i) (slot:=m.slot) w1 hsl;have ea:=at1 i hi;have hi1:i<L1.length:=by omega
  have hrk:(wk3 m loads sil i).nd.rk=(wk1 m loads i).nd.rk:=by
   show(Eh (Cu m.slot (BL m.slot (wk2 m loads sil i)))).nd.rk=_;have e1:(Cu m.slot (BL m.slot (wk2 m loads sil i))).nd.rk=(BL m.slot (wk2 m loads sil i)).nd.rk:=by unfold Cu;split<;>rfl
   have e2:(Eh (Cu m.slot (BL m.slot (wk2 m loads sil i)))).nd.rk=(Cu m.slot (BL m.slot (wk2 m loads sil i))).nd.rk:=by unfold Eh;split<;>rfl
   rw[e2,e1,d4];rfl
  have old:∀x∈(wk1 m loads i).nd.nb,x.slot<=m.slot/\AdAt L1 x.node x.epoch x.rank:=fun x hx=>by
   have b1:=N1.CE i hi1;have b2:=N1.ad i hi1;rw[ea] at b1 b2;exact⟨b1 x hx,b2 x hx⟩
  have mid:∀x∈(Cu m.slot (BL m.slot (wk2 m loads sil i))).nd.nb,x.slot<=m.slot/\AdAt L1 x.node x.epoch x.rank:=by
   intro x hx;have e5:(BL m.slot (wk2 m loads sil i)).nd.nb=(wk1 m loads i).nd.nb:=d5;unfold Cu at hx
   split at hx
   ·rename_i hc;rw[d2] at hc hx;obtain⟨_,h2⟩:=VD (by rw[e5];exact w1.nb) hc.2.2;have hx:x∈(hearM (BL m.slot (wk2 m loads sil i)).nd.nb (wk2 m loads sil i).rs.source (wk2 m loads sil i).rs.epoch (wk2 m loads sil i).rs.rank m.slot).1:=hx;rw[h2,e5] at hx;rcases R.Oj hx with hx|hx
    ·exact old x hx
    ·obtain⟨j,hj,k1,e,_⟩:=Jr hi hc.1;have hpj:=Rz (loads:=loads) (hr j hj) hsl;obtain⟨b1,b2,b3,b4⟩:=Ss (turns:=m.turns) hpj (by omega) hsl k1;have e3:(wk2 m loads sil i).rs.BF=(wk1 m loads j).ac.BF:=congrArg Fr.kind e;have hbc:=b3.1 (e3.symm.trans hc.2.1);obtain⟨c1,c2,c3⟩:=b4 hbc;obtain⟨_,_,_,_,_,a6⟩:=Y7 (slot:=m.slot) (turns:=m.turns) hpj;have e4:AcC (wk2 m loads sil i).rs=bcF (NZ m loads j).rk m.slot:=e.trans c2;have f1:(wk2 m loads sil i).rs.source=(NZ m loads j).rk.node:=congrArg Fr.source e4;have f2:(wk2 m loads sil i).rs.epoch=(NZ m loads j).rk.epoch:=congrArg Fr.epoch e4;have f3:(wk2 m loads sil i).rs.rank=(NZ m loads j).rk.rank:=congrArg Fr.rank e4;rw[hx.1,hx.2.1,hx.2.2.1,hx.2.2.2,f1,f2,f3];refine⟨Int.le_refl _,j,by omega,hpj.rn,?_⟩;rw[at1 j hj];exact a6 hbc
   ·rw[e5] at hx;exact old x hx
  have fin:∀x∈(wk3 m loads sil i).nd.nb,x.slot<=m.slot/\AdAt L1 x.node x.epoch x.rank:=by
   intro x hx;have hx:x∈(Eh (Cu m.slot (BL m.slot (wk2 m loads sil i)))).nd.nb:=hx;unfold Eh at hx
   split at hx
   ·rename_i hc;have hnb:checkNb (Cu m.slot (BL m.slot (wk2 m loads sil i))).nd.nb=0:=by
     refine(RG d1 fun hh2=>?_).nb;rw[d2] at hh2 ⊢;obtain⟨j,hj,k1,e,_⟩:=Jr hi hh2;have:=((JR (loads:=loads) hn hsl hj (hr j hj)).2 k1).1;have e2:(wk2 m loads sil i).rs.source=(wk1 m loads j).ac.source:=congrArg Fr.source e;rw[e2,this];omega
    obtain⟨_,h2,h3⟩:=R8 hnb hc.2.2.2;have hx:x∈(countM (Cu m.slot (BL m.slot (wk2 m loads sil i))).nd.nb _ _).1:=hx;rw[h3] at hx;rcases List.mem_or_eq_of_mem_set hx with hx|hx
    ·exact mid x hx
    ·obtain⟨c1,c2,c3,c4⟩:=R9 ((Cu m.slot (BL m.slot (wk2 m loads sil i))).nd.nb.getD (P.C8 (Cu m.slot (BL m.slot (wk2 m loads sil i))).nd.nb (Cu m.slot (BL m.slot (wk2 m loads sil i))).ac.target) default) (Cu m.slot (BL m.slot (wk2 m loads sil i))).rs.AT;have:=mid _ (R.CU (P.CB.1 h2).1);rw[hx,c1,c2,c3,c4];exact this
   ·exact mid x hx
  rw[at2 i hi];refine⟨w3.rn,w3.rk,w3.nb,fun x hx=>(fin x hx).1,fun x hx=>(fin x hx).2,?_,?_⟩
  ·rw[ea];show Mono (wk1 m loads i).nd.rk (wk3 m loads sil i).nd.rk;rw[hrk];exact Mono.refl _
  ·show(wk3 m loads sil i).nd.rk.parent≠-1->AdAt L1 (wk3 m loads sil i).nd.rk.parent (wk3 m loads sil i).nd.rk.epoch (wk3 m loads sil i).nd.rk.heard;rw[hrk];have:=N1.par i hi1;rw[ea] at this;exact this
 rw[GA];have l3:(((List.range m.nodes.length).map (K9 m loads sil)).map pi).length=m.nodes.length:=by simp
 refine NL.update (L:=L2) (by rw[l3,l2]) fun i hi=>?_
 rw[l2] at hi;have hi2:i<L2.length:=by omega
 have ea:=at2 i hi;have e3:(((List.range m.nodes.length).map (K9 m loads sil)).map pi).getD i default=pi (K9 m loads sil i):=by
  rw[List.map_map];exact Ct _ hi
 have w3:=Q3 (loads:=loads) (sil:=sil) hn hsl hr hi;have hw:(F6 m.slot [] (wk3 m loads sil i)).2.nd.rk=(wk3 m loads sil i).nd.rk/\(F6 m.slot [] (wk3 m loads sil i)).2.nd.nb=(wk3 m loads sil i).nd.nb:=by
  unfold F6
  split
  ·exact⟨rfl,rfl⟩
  ·split
   ·exact VJ _ _ _
   ·exact⟨rfl,rfl⟩
 obtain⟨f1,f2⟩:=OS w3.nb m.slot;have hG:Goes L2 m.slot i (R.AeH ⟨(L2.getD i default).r,forgetM (wk3 m loads sil i).nd.nb m.slot 256⟩ 64):=by
  refine R.XV (slot2:=m.slot) N2 (by omega) hi2 f1 (fun x hx=>?_) fun x hx=>?_
  ·have:=N2.CE i hi2;rw[ea] at this;exact this x (f2 x hx)
  ·have:=N2.ad i hi2;rw[ea] at this;exact this x (f2 x hx)
 have hpi:pi (K9 m loads sil i)=R.AeH ⟨(L2.getD i default).r,forgetM (wk3 m loads sil i).nd.nb m.slot 256⟩ 64:=by
  rw[ea];show pi (DT m.slot (F6 m.slot [] (wk3 m loads sil i)).2.nd)=(⟨(select' (forgetM (wk3 m loads sil i).nd.nb m.slot 256) (wk3 m loads sil i).nd.rk 64).1,forgetM (wk3 m loads sil i).nd.nb m.slot 256⟩:R.Wk);have s1:=(R.Ho f1 w3.rk (m:=64) (by omega)).1;unfold DT pi;rw[hw.1,hw.2,AgY (by omega)]
  split<;>rfl
 rw[e3,hpi];exact⟨hG.node,hG.rk,hG.nb,fun x hx=>Int.le_trans (hG.CE x hx) (by omega),hG.ad,hG.mono,hG.par⟩
def upP (p:List Int):Nat->Int->Int
 |0,a=>a
 |k+1,a=>if 0<=upP p k a/\upP p k a<p.length then p.getD (upP p k a).toNat default else upP p k a
theorem Ab1 {l:List Rk} (h:Y.Tree l) {i:Nat} (hi:i<l.length):upP (l.map (·.parent)) l.length i=-1:=by
 have key:∀k,k<=l.length->Y.Aee l k (upP (l.map (·.parent)) k i):=by
  intro k
  induction k with
  |zero=>intro _;exact .inr ⟨i,hi,rfl,by have:=Y.Yz hi;omega⟩
  |succ k ih=>
   intro hk;unfold upP;rcases ih (by omega) with e|⟨j,hj,e,ha⟩
   ·rw[e,AgY (by omega)];exact .inl rfl
   ·rw[e,AgZ (by simp;omega)];have e2:(l.map (·.parent)).getD ((j:Int).toNat) default=(l.getD j default).parent:=by
     simp[Agi,hj]
    rw[e2];exact Y.Aee.step h hj ha
 rcases key l.length (Ag0 _) with e|⟨j,hj,e,ha⟩
 ·exact e
 ·omega
theorem AeL {m:Me} {slot:Int} (h:NL (m.nodes.map pi) [] slot) {i:Nat} (hi:i<m.nodes.length):upP (m.nodes.map fun x=>x.rk.parent) m.nodes.length i=-1:=by
 have ht:=Y.Zq h;have hl:(Y.YL (m.nodes.map pi) (m.nodes.map pi).length).length=m.nodes.length:=by rw[Y.Mm];simp
 have e:(Y.YL (m.nodes.map pi) (m.nodes.map pi).length).map (·.parent)=m.nodes.map fun x=>x.rk.parent:=by
  refine List.ext_getElem (by rw[Agz,hl,Agz]) fun j h1 h2=>?_
  simp only[Agz] at h2;simp[Y.YL,Agi,h2,pi]
 have:=Ab1 ht (i:=i) (by omega);rw[hl,e] at this;exact this
end Go.Proofs.M
end
section
namespace Go.Proofs.M
open Go Go.Sx Go.Proofs Go.Proofs.T Go.Proofs.Q
open Go.Proofs.P (Nb nbs Rk rkA rkErr checkNb hearM countM forgetM select')
open Go.Proofs.R (startM advM)
def InQ (x:MN) (d:ByteArray):Prop:=∃p∈x.st.qu.Af,p.data=d
theorem Adt {n:Nat} {T:Tb} {i:Nat} {x:MN} {slot:Int} (h:RN n T i x) (hs:0<=slot/\slot<=109951162) {d:ByteArray} (hd:InQ (Jb slot x) d):InQ x d:=by
 obtain⟨h1,h2,h3,h4⟩:=QH h.st hs;unfold Jb at hd;rw[AgZ h1] at hd;obtain⟨p,hp,e⟩:=hd;have hp:p∈(Cv x.st slot).1.qu.Af:=hp;rw[h4] at hp;exact⟨p,(AgR.1 hp).1,e⟩
theorem VK {n:Nat} {T:Tb} {i:Nat} {x:MN} {slot:Int} {d0 d:ByteArray} (h:RN n T i x) (hd:InQ (EY slot x d0) d):InQ x d\/d=d0:=by
 unfold EY at hd
 split at hd
 ·exact .inl hd
 ·split at hd
  ·rename_i h0;obtain⟨p,hp,e⟩:=hd;obtain⟨_,_,h3⟩:=P5 h.st h0;have hp:p∈(I3 x.st ⟨x.next,x.rk.parent,1,slot,256,d0⟩).1.qu.Af:=hp;rw[h3] at hp;have hq:(EW x.st.qu ⟨x.next,x.rk.parent,1,slot,256,d0⟩).2.2=0:=by
    unfold I3 at h0;rw[AgY (by have:=h.st;omega)] at h0;by_cases e1:(EW x.st.qu ⟨x.next,x.rk.parent,1,slot,256,d0⟩).2.2=0
    ·exact e1
    ·rw[AgZ e1] at h0;exact absurd h0 e1
   rcases Q.Rw (Bf h.st).2.1 hq hp with h9|h9
   ·right;rw[<-e,h9]
   ·exact .inl ⟨p,h9,e⟩
  ·exact .inl hd
theorem LM (slot i:Int):∀(a:List Ld) (l:Ld) (x:MN),CF slot i (a++[l]) x=if l.slot=slot/\l.node=i/\i≠0 then EY slot (CF slot i a x) (G2 i (CF slot i a x).next) else CF slot i a x
 |[],_,_=>rfl
 |b :: a,l,x=>LM slot i a l _
theorem RM {n:Nat} {T:Tb} {i:Nat} {slot:Int} {x:MN} (h:RN n T i x) {d:ByteArray} (ls:List Ld):∀k,k<=ls.length->InQ (CF slot i (ls.take k) x) d->
  InQ x d\/∃q,q<k/\(ls.getD q default).slot=slot/\(ls.getD q default).node=i/\(i:Int)≠0/\d=G2 i (CF slot i (ls.take q) x).next
 |0,_,hd=>.inl hd
 |k+1,hk,hd=>by
  have A8:InQ (CF slot i (ls.take k) x) d->InQ x d\/∃q,q<k+1/\(ls.getD q default).slot=slot/\(ls.getD q default).node=i/\(i:Int)≠0/\d=G2 i (CF slot i (ls.take q) x).next:=fun hd=>by
   rcases RM h ls k (by omega) hd with h1|⟨q,h1,h2⟩
   ·exact .inl h1
   ·exact .inr ⟨q,by omega,h2⟩
  rw[Ce (by omega),LM] at hd
  split at hd
  ·rename_i hc;rcases VK (Ko (ls.take k) h) hd with h1|h1
   ·exact A8 h1
   ·exact .inr ⟨k,by omega,hc.1,hc.2.1,hc.2.2,h1⟩
  ·exact A8 hd
theorem Aaz {n:Nat} {T:Tb} {i:Nat} {slot:Int} {x:MN} (h:RN n T i x) {d:ByteArray} (ls:List Ld) (hd:InQ (CF slot i ls x) d):
  InQ x d\/∃q,q<ls.length/\(ls.getD q default).slot=slot/\(ls.getD q default).node=i/\(i:Int)≠0/\d=G2 i (CF slot i (ls.take q) x).next:=by
 refine RM h ls ls.length (Ag0 _) ?_;rw[AgP (Ag0 _)];exact hd
theorem AdQ {slot turns:Int} {x:MN} {d:ByteArray} (h:InQ (DF slot turns x).1 d):InQ x d:=by
 unfold DF at h
 split at h<;>exact h
theorem WJ {n:Nat} {T:Tb} {i:Nat} {x:MN} {slot turns:Int} (h:RN n T i x) (hs:0<=slot/\slot<=109951162) (k1:(DF slot turns x).2.1.kind=1) (k4:(DF slot turns x).2.1.BF=4):InQ x (DF slot turns x).2.1.data:=by
 unfold DF at k1 k4 ⊢
 split
 ·rename_i hd;rw[AgZ hd] at k4;cases k4
 ·rename_i hd;rw[AgY hd] at k1 k4;dsimp only at k1 k4 ⊢;have ha:Py x.st slot=(C2 x.st slot (atM x.st.tb slot).1,0):=by
   unfold Py;rw[AgY (by have:=h.st;omega),AgY (by omega)]
  rw[ha] at k1 k4 ⊢;dsimp only at k1 k4 ⊢;obtain⟨_,hm,hq,_⟩:=Nk h.st k1 (by omega);refine⟨_,hm,?_⟩;rw[hq];rfl
theorem Uo {s:Sta} {c:TC} {b:Bool} (hck:AQ s=0) (hp:Bz s c∈s.qu.Af) {p:Pk} (h:p∈(CS s c b).qu.Af):p∈s.qu.Af:=by
 obtain⟨_,h2,_⟩:=Bf hck;obtain⟨m,hm,hs⟩:=Ra h2 hp;have hl:(Dg s (Bz s c).id).qu.Af=m:=by
  show(IA s.qu (Bz s c).id).1.Af=m;rw[hm]
 unfold CS TA L5 AdH at h
 split at h
 ·rw[hl] at h;exact hs.subset h
 ·split at h
  ·split at h
   ·have h:p∈(Dg s (Bz s c).id).qu.Af:=h;rw[hl] at h;exact hs.subset h
   ·rw[hl] at h;exact hs.subset h
  ·split at h<;>exact h
theorem XR (s:Sta) (f:Fr):(B7 s f).1.qu=s.qu:=by
 unfold B7
 repeat' split
 all_goals rfl
theorem Abb {n:Nat} {T:Tb} {i:Nat} {w:Wk} {slot:Int} (h:RN n T i w.nd) (hs:0<=slot/\slot<=109951162) {d:ByteArray} (hd:InQ (BL slot w).nd d):InQ w.nd d:=by
 unfold BL at hd
 split at hd
 ·exact hd
 ·obtain⟨e,_⟩:=JL (s:=w.nd.st) (slot:=slot) w.rs h.st hs;rw[e] at hd;rw[AgZ rfl] at hd;obtain⟨p,hp,e2⟩:=hd;refine⟨p,?_,e2⟩;have hp:p∈(CJ w.nd.st slot (atM w.nd.st.tb slot).1 w.rs).1.qu.Af:=hp;unfold CJ at hp
  split at hp
  ·split at hp
   ·unfold Abt at hp
    split at hp<;>exact hp
   ·exact hp
  ·rename_i hk
   split at hp
   ·rename_i k1;exact Uo h.st (Nk h.st k1 (fun k2=>hk ⟨k1,k2⟩)).2.1 hp
   ·split at hp
    ·have hw:(L8 w.nd.st (atM w.nd.st.tb slot).1).qu=w.nd.st.qu:=by unfold L8;split<;>rfl
     split at hp
     ·rw[XR,hw] at hp;exact hp
     ·have hp:p∈(L8 w.nd.st (atM w.nd.st.tb slot).1).qu.Af:=hp;rw[hw] at hp;exact hp
    ·exact hp
theorem Aba {n:Nat} {T:Tb} {i:Nat} {w:Wk} {slot:Int} (h:RN n T i w.nd) (hs:0<=slot/\slot<=109951162) (hz:w.up=zUp) (hn:(BL slot w).up.new=true):
  w.rs.heard=true/\Afl (BL slot w).up=AcC w.rs/\w.bc=false:=by
 unfold BL at hn ⊢
 split
 ·rename_i hb;rw[AgZ hb,hz] at hn;cases hn
 ·rename_i hb;rw[AgY hb] at hn;obtain⟨e,_⟩:=JL (s:=w.nd.st) (slot:=slot) w.rs h.st hs;rw[e] at hn ⊢;rw[AgZ rfl] at hn ⊢;dsimp only at hn ⊢;have hsome:(CJ w.nd.st slot (atM w.nd.st.tb slot).1 w.rs).2.some=true:=by
   unfold CJ at hn ⊢
   split
   ·rename_i hk;rw[AgZ hk] at hn;cases hn
   ·rename_i hk;rw[AgY hk] at hn
    split
    ·rename_i k1;rw[AgZ k1] at hn;cases hn
    ·rename_i k1;rw[AgY k1] at hn
     split
     ·rename_i k2;rw[AgZ k2] at hn
      split
      ·rename_i hh;rw[AgZ hh] at hn;unfold B7 at hn ⊢
       split
       ·rename_i g;rw[AgZ g] at hn;cases hn
       ·split
        ·rfl
        ·split<;>rfl
      ·rename_i hh;rw[AgY hh] at hn;cases hn
     ·rename_i k2;rw[AgY k2] at hn;cases hn
  have:=(V8 (slot:=slot) w.rs h.st (Wz w.nd.st.tb slot (Bf h.st).1)).2 hsome;refine⟨this.2.1,?_,by simpa using hb⟩;exact this.2.2.1
theorem Wj {slot:Int} {x:MN} {d:ByteArray} (h:InQ (DT slot x) d):InQ x d:=by
 unfold DT at h
 split at h
 ·exact h
 ·split at h
  ·exact h
  ·obtain⟨p,hp,e⟩:=h;obtain⟨q,hq,rfl⟩:=AgT.1 hp;refine⟨q,hq,?_⟩;rw[<-e];unfold Eg
   split<;>rfl
theorem Abm {a b c:Int} (ha:0<=a/\a<256) (hb:0<=b/\b<256) (hc:0<=c/\c<256):bAt (mkS [a,b,c]) 0=a/\bAt (mkS [a,b,c]) 1=b/\bAt (mkS [a,b,c]) 2=c/\(mkS [a,b,c]).size=3:=by
 have key:(mkS [a,b,c]).data=#[UInt8.ofNat a.toNat,UInt8.ofNat b.toNat,UInt8.ofNat c.toNat]:=rfl;have hu:∀z:Int,0<=z/\z<256->((UInt8.ofNat z.toNat).toNat:Int)=z:=fun z hz=>by
  rw[UInt8.toNat_ofNat'];omega
 unfold bAt;rw[key];exact⟨hu a ha,hu b hb,hu c hc,rfl⟩
theorem Ye {i:Nat} {id:Int} (hi:i<=31) (hid:0<=id/\id<=65535):bAt (G2 i id) 0=i/\256*bAt (G2 i id) 1+bAt (G2 i id) 2=id/\(G2 i id).size=3:=by
 obtain⟨h1,h2,h3,h4⟩:=Abm (a:=(i:Int) % 256) (b:=id/256 % 256) (c:=id % 256) (by omega) (by omega) (by omega);unfold G2;exact⟨by rw[h1];omega,by rw[h2,h3];omega,h4⟩
def YR (d:ByteArray):Int×Int:=(bAt d 0,256*bAt d 1+bAt d 2)
def Sv (loads:List Ld) (g:Nat->Int×Int) (t:Int) (k:Int×Int):Prop:=∃q,q<loads.length/\(loads.getD q default).slot<t/\0<(loads.getD q default).node/\(loads.getD q default).node=k.1/\g q=k
structure Za (loads:List Ld) (m:Me):Prop where
 ex:∃g:Nat->Int×Int,(∀i,i<m.nodes.length->∀d,InQ (m.nodes.getD i default) d->Sv loads g m.slot (YR d))/\∀a∈m.arr,Sv loads g (a.slot+1) (a.origin,a.id)
 rng:∀a∈m.arr,0<=a.slot/\a.slot<m.slot
 asc:m.arr.Pairwise fun a b=>a.slot<=b.slot/\(a.origin,a.id)≠(b.origin,b.id)
theorem Sv.mono {loads:List Ld} {g:Nat->Int×Int} {t u:Int} {k:Int×Int} (h:Sv loads g t k) (hu:t<=u):Sv loads g u k:=by
 obtain⟨q,h1,h2,h3⟩:=h;exact⟨q,h1,by omega,h3⟩
theorem Ii (l:List Ar) (d:ByteArray) (slot:Int):Dm l d slot=l\/(Dm l d slot=l++[Na d slot]/\∀x∈l,(x.origin,x.id)≠((Na d slot).origin,(Na d slot).id)):=by
 unfold Dm
 split
 ·exact .inl rfl
 ·rename_i hn
  split
  ·exact .inl rfl
  ·refine .inr ⟨rfl,fun x hx e=>?_⟩;rw[AgU,AgC] at hn;have:=hn x hx;rw[Prod.mk.injEq] at e;simp[e.1,e.2] at this
theorem Uz {m:Me} {loads:List Ld} {sil:List Si} (hm:BX m=0) (hs:m.slot<16384) (h:Za loads m):Za loads (Cz m loads sil):=by
 obtain⟨hh,hr⟩:=C7.1 hm;have hn:=hh.n2;have h1:=hh.s1;have hn1:=hh.n1;have hsl:0<=m.slot/\m.slot<=109951162:=by omega
 obtain⟨g,hg1,hg2⟩:=h.ex;obtain⟨g',hg'⟩:∃g':Nat->Int×Int,g'=fun q=>if(loads.getD q default).slot=m.slot then YR (G2 ((loads.getD q default).node.toNat:Nat) (CF m.slot ((loads.getD q default).node.toNat:Nat) (loads.take q) (Jb m.slot (m.nodes.getD (loads.getD q default).node.toNat default))).next) else g q:=⟨_,rfl⟩
 have old:∀{t:Int} {k:Int×Int},t<=m.slot->Sv loads g t k->Sv loads g' t k:=by
  rintro t k ht ⟨q,q1,q2,q3,q4,q5⟩;refine⟨q,q1,q2,q3,q4,?_⟩;rw[hg'];dsimp only;rw[AgY (by omega)];exact q5
 have hpre:∀i,i<m.nodes.length->∀d,InQ (NZ m loads i) d->Sv loads g' (m.slot+1) (YR d):=by
  intro i hi d hd;have he:=Y0 (hr i hi) hsl;rcases Aaz he loads hd with h2|⟨q,q1,q2,q3,q4,q5⟩
  ·exact(old (Int.le_refl _) (hg1 i hi d (Adt (hr i hi) hsl h2))).mono (by omega)
  ·have hx:=(Ko (slot:=m.slot) (j:=(i:Int)) (loads.take q) he).nx;obtain⟨d1,d2,d3⟩:=Ye (i:=i) (by omega) hx;refine⟨q,q1,by omega,by omega,?_,?_⟩
   ·rw[q3,q5];exact d1.symm
   ·rw[hg'];dsimp only;have e:(loads.getD q default).node.toNat=i:=by omega
    rw[AgZ q2,e,q5]
 have hw1:∀i,i<m.nodes.length->∀d,InQ (wk1 m loads i).nd d->Sv loads g' (m.slot+1) (YR d):=fun i hi d hd=>hpre i hi d (AdQ hd)
 have hup:∀i,i<m.nodes.length->Li (wk3 m loads sil i)=true->Sv loads g' (m.slot+1) (YR (wk3 m loads sil i).up.data):=by
  intro i hi hf;have w1:=(JR (loads:=loads) hn hsl hi (hr i hi)).1;have eu:(wk3 m loads sil i).up=(BL m.slot (wk2 m loads sil i)).up:=by
   show(Eh (Cu m.slot (BL m.slot (wk2 m loads sil i)))).up=_;have e1:(Cu m.slot (BL m.slot (wk2 m loads sil i))).up=(BL m.slot (wk2 m loads sil i)).up:=by unfold Cu;split<;>rfl
   rw[<-e1];unfold Eh
   split<;>rfl
  unfold Li at hf;simp only[Agt,Agl] at hf;rw[eu] at hf ⊢;obtain⟨u1,u2,_⟩:=Aba (w:=wk2 m loads sil i) (slot:=m.slot) w1 hsl rfl hf.1.1.1;obtain⟨j,hj,k1,e,_⟩:=Jr hi u1;have e4:Afl (BL m.slot (wk2 m loads sil i)).up=T5 (wk1 m loads j).ac:=u2.trans e;have f1:(BL m.slot (wk2 m loads sil i)).up.BF=(wk1 m loads j).ac.BF:=congrArg Fr.kind e4;have f2:(BL m.slot (wk2 m loads sil i)).up.data=(wk1 m loads j).ac.data:=congrArg Fr.data e4;rw[f2];refine hpre j hj _ (WJ (turns:=m.turns) (Rz (loads:=loads) (hr j hj) hsl) hsl k1 ?_);rw[show(DF m.slot m.turns (NZ m loads j)).2.1.BF=(wk1 m loads j).ac.BF from rfl,<-f1];exact hf.1.1.2
 have hnode:∀i,i<m.nodes.length->∀d,InQ (K9 m loads sil i) d->Sv loads g' (m.slot+1) (YR d):=by
  intro i hi d hd;have w1:=(JR (loads:=loads) hn hsl hi (hr i hi)).1;have w3:=Q3 (loads:=loads) (sil:=sil) hn hsl hr hi;have hd:=Wj hd;have h3:∀d,InQ (wk3 m loads sil i).nd d->Sv loads g' (m.slot+1) (YR d):=fun d hd=>by
   have e1:(wk3 m loads sil i).nd.st=(BL m.slot (wk2 m loads sil i)).nd.st:=by
    show(Eh (Cu m.slot (BL m.slot (wk2 m loads sil i)))).nd.st=_;have e1:(Cu m.slot (BL m.slot (wk2 m loads sil i))).nd.st=(BL m.slot (wk2 m loads sil i)).nd.st:=by unfold Cu;split<;>rfl
    rw[<-e1];unfold Eh
    split<;>rfl
   have hd:InQ (BL m.slot (wk2 m loads sil i)).nd d:=by
    obtain⟨p,hp,e⟩:=hd;rw[e1] at hp;exact⟨p,hp,e⟩
   exact hw1 i hi d (Abb (w:=wk2 m loads sil i) w1 hsl hd)
  unfold F6 at hd
  split at hd
  ·exact h3 d hd
  ·rename_i hf
   split at hd
   ·rcases VK w3 hd with hd|hd
    ·exact h3 d hd
    ·rw[hd];exact hup i hi (by simpa using hf)
   ·exact h3 d hd
 rw[GA];have hl:((List.range m.nodes.length).map (K9 m loads sil)).length=m.nodes.length:=by simp
 have harr:Yp m loads sil=m.arr\/(∃d,Yp m loads sil=m.arr++[Na d m.slot]/\Sv loads g' (m.slot+1) (YR d)/\∀x∈m.arr,(x.origin,x.id)≠((Na d m.slot).origin,(Na d m.slot).id)):=by
  unfold Yp;rw[(HS m loads sil).2,AgZ (by omega)];unfold F6
  split
  ·exact .inl rfl
  ·rename_i hf
   split
   ·exact .inl rfl
   ·rcases Ii m.arr (wk3 m loads sil 0).up.data m.slot with e|⟨e,h2⟩
    ·exact .inl e
    ·exact .inr ⟨_,e,hup 0 (by omega) (by simpa using hf),h2⟩
 refine⟨⟨g',fun i hi d hd=>?_,fun a ha=>?_⟩,fun a ha=>?_,?_⟩
 ·dsimp only at hi hd ⊢;rw[hl] at hi;rw[Ct _ hi] at hd;exact hnode i hi d hd
 ·have ha:a∈Yp m loads sil:=ha;rcases harr with e|⟨d,e,hf,_⟩
  ·rw[e] at ha;have:=h.rng a ha;exact old (by omega) (hg2 a ha)
  ·rw[e] at ha;rcases List.mem_append.1 ha with ha|ha
   ·have:=h.rng a ha;exact old (by omega) (hg2 a ha)
   ·rw[Agx] at ha;subst ha;exact hf
 ·have ha:a∈Yp m loads sil:=ha;show 0<=a.slot/\a.slot<m.slot+1;rcases harr with e|⟨d,e,hf,_⟩
  ·rw[e] at ha;have:=h.rng a ha;omega
  ·rw[e] at ha;rcases List.mem_append.1 ha with ha|ha
   ·have:=h.rng a ha;omega
   ·rw[Agx] at ha;subst ha;show 0<=m.slot/\m.slot<m.slot+1;omega
 ·show(Yp m loads sil).Pairwise _;rcases harr with e|⟨d,e,hf,h2⟩
  ·rw[e];exact h.asc
  ·rw[e,List.pairwise_append];refine⟨h.asc,List.pairwise_singleton _ _,fun a ha b hb=>?_⟩;rw[Agx] at hb;subst hb;have:=h.rng a ha;exact⟨by show a.slot<=m.slot;omega,h2 a ha⟩
theorem Jq {loads:List Ld} {sil:List Si} {m:Me} (hm:BX m=0) (h:Za loads m):∀k:Nat,m.slot+k<=16384->Za loads (runN loads sil k m)
 |0,_=>h
 |k+1,hk=>by
  have ih:=Jq (loads:=loads) (sil:=sil) hm h k (by omega);obtain⟨c1,c2,_,_⟩:=Ed (loads:=loads) (sil:=sil) hm k (by omega);exact Uz c1 (by omega) ih
theorem Vv {α:Type} {R:α->Nat->Prop} {N:Nat}:∀{l:List α},l.Pairwise (fun a b=>∀q,R a q->R b q->False)->(∀a∈l,∃q,q<N/\R a q)->∃qs:List Nat,qs.length=l.length/\qs.Nodup/\(∀q∈qs,q<N)/\∀q∈qs,∃a∈l,R a q
 |[],_,_=>⟨[],rfl,List.nodup_nil,by simp,by simp⟩
 |a :: l,hp,hq=>by
  rw[List.pairwise_cons] at hp;obtain⟨qs,h1,h2,h3,h4⟩:=Vv hp.2 fun x hx=>hq x (by simp[hx])
  obtain⟨q,hq1,hq2⟩:=hq a (by simp);refine⟨q :: qs,by simp[h1],List.nodup_cons.2 ⟨fun hm=>?_,h2⟩,fun x hx=>?_,fun x hx=>?_⟩
  ·obtain⟨b,hb,hr⟩:=h4 q hm;exact hp.1 b hb q hq2 hr
  ·rcases AgD.1 hx with rfl|hx
   ·exact hq1
   ·exact h3 x hx
  ·rcases AgD.1 hx with rfl|hx
   ·exact⟨a,by simp,hq2⟩
   ·obtain⟨b,hb,hr⟩:=h4 x hx;exact⟨b,by simp[hb],hr⟩
theorem RJ:∀(N:Nat) (S:List Nat),S.Nodup->(∀x∈S,x<N)->S.length<=N
 |0,S,_,h=>by
  cases S with
  |nil=>simp
  |cons a S=>have:=h a (by simp);omega
 |N+1,S,hn,h=>by
  have h2:=RJ N (S.erase N) (hn.erase _) (fun x hx=>by
   have h3:=h x (List.mem_of_mem_erase hx);have h4:x≠N:=fun e=>(List.Nodup.not_mem_erase hn) (e▸hx)
   omega)
  have h5:=List.length_erase (a:=N) (l:=S)
  split at h5<;>omega
theorem WB {loads:List Ld} {m:Me} (h:Za loads m):m.arr.length<=loads.length:=by
 obtain⟨g,_,hg⟩:=h.ex;obtain⟨qs,h1,h2,h3,_⟩:=Vv (R:=fun(a:Ar) q=>g q=(a.origin,a.id)) (N:=loads.length) (h.asc.imp fun{a b} hab q e1 e2=>hab.2 (e1.symm.trans e2)) fun a ha=>by
  obtain⟨q,q1,_,_,_,q5⟩:=hg a ha;exact⟨q,q1,q5⟩
 rw[<-h1];exact RJ _ qs h2 h3
end Go.Proofs.M
end
section
namespace Go.Proofs.M
open Go Go.Sx Go.Proofs Go.Proofs.T Go.Proofs.Q
open Go.Proofs.P (Nb nbs Rk rkA rkErr checkNb hearM countM forgetM select')
open Go.Proofs.R (startM advM AdAt NL Goes Mono AdOK)
theorem Tf {t:Tb} {a b:Int} (h:(MF t a b).2=0):(MF t a b).1.qu.Af=[]:=by
 unfold MF at h ⊢
 split
 ·rename_i hc;rw[AgZ hc] at h;cases h
 ·rename_i hc;rw[AgY hc] at h
  split
  ·rename_i h2;rw[AgZ h2] at h;cases h
  ·rfl
theorem NM (i:Int) (h:(startM i).2=0):(startM i).1.parent=-1:=by
 unfold startM at h ⊢
 split
 ·rename_i hc;rw[AgZ hc] at h;cases h
 ·split<;>rfl
def Y9 (x:MN):Prop:=x.nb=[]/\x.st.qu.Af=[]/\x.rk.parent=-1
theorem Va (turns:Int):∀(ts:List Tb) (j:Nat) (l:List MN),WO turns ts j=some l->l.length=ts.length/\∀x∈l,Y9 x
 |[],j,l,h=>by
  cases h;exact⟨rfl,fun x hx=>(by cases hx)⟩
 |t :: ts,j,l,h=>by
  unfold WO at h
  split at h
  ·cases h
  ·rename_i hc
   split at h
   ·cases h
   ·rename_i l2 e;cases h;obtain⟨h1,h2⟩:=Va turns ts (j+1) l2 e;refine⟨by rw[List.length_cons,List.length_cons,h1],fun x hx=>?_⟩;rcases AgD.1 hx with rfl|hx
    ·exact⟨rfl,Tf (by omega),NM _ (by omega)⟩
    ·exact h2 x hx
theorem JE {ts:List Tb} {turns:Int} (h:(CM ts turns).2=0):BX (CM ts turns).1=0/\(CM ts turns).1.slot=0/\(CM ts turns).1.nodes.length=ts.length/\(CM ts turns).1.arr=[]/\∀x∈(CM ts turns).1.nodes,Y9 x:=by
 cases e:WO turns ts 0 with
 |none=>
  have e2:CM ts turns=(noM,1):=by unfold CM;rw[e]
  rw[e2] at h;cases h
 |some l=>
  obtain⟨h1,h2⟩:=Va turns ts 0 l e;have e2:CM ts turns=if BX ⟨l,0,turns,[]⟩≠0 then(noM,1) else(⟨l,0,turns,[]⟩,0):=by unfold CM;rw[e]
  by_cases hc:BX ⟨l,0,turns,[]⟩=0
  ·rw[AgY (fun hn=>hn hc)] at e2;rw[e2];exact⟨hc,rfl,h1,rfl,h2⟩
  ·rw[AgZ hc] at e2;rw[e2] at h;cases h
theorem RK {l:List MN} {i:Nat} (hi:i<l.length):l.getD i default∈l:=by
 rw[Agi,Agr hi];exact AgN hi
theorem Afx {ts:List Tb} {turns:Int} (h:(CM ts turns).2=0):NL ((CM ts turns).1.nodes.map pi) [] (CM ts turns).1.slot:=by
 obtain⟨h1,h2,h3,h4,h5⟩:=JE h;generalize (CM ts turns).1=m at *;obtain⟨hh,hr⟩:=C7.1 h1;have hl:(m.nodes.map pi).length=m.nodes.length:=by simp
 have hat:∀i,i<(m.nodes.map pi).length->(m.nodes.map pi).getD i default=pi (m.nodes.getD i default):=fun i hi=>AcF (by omega)
 refine⟨fun i hi=>?_,fun i hi=>?_,fun i hi=>?_,fun i hi x hx=>?_,fun i hi x hx=>?_,(fun s hs=>(by cases hs)),fun i hi hp=>?_⟩
 ·rw[hat i hi];exact(hr i (by omega)).rn
 ·rw[hat i hi];exact(hr i (by omega)).rk
 ·rw[hat i hi];exact(hr i (by omega)).nb
 ·rw[hat i hi] at hx;have hx:x∈(m.nodes.getD i default).nb:=hx;rw[(h5 _ (RK (by omega))).1] at hx;cases hx
 ·rw[hat i hi] at hx;have hx:x∈(m.nodes.getD i default).nb:=hx;rw[(h5 _ (RK (by omega))).1] at hx;cases hx
 ·rw[hat i hi] at hp;exact absurd (h5 _ (RK (i:=i) (by omega))).2.2 hp
theorem Ys {ts:List Tb} {turns:Int} (loads:List Ld) (h:(CM ts turns).2=0):Za loads (CM ts turns).1:=by
 obtain⟨h1,h2,h3,h4,h5⟩:=JE h;generalize (CM ts turns).1=m at *;refine⟨⟨fun _=>(0,0),fun i hi d hd=>?_,fun a ha=>?_⟩,fun a ha=>?_,?_⟩
 ·obtain⟨p,hp,_⟩:=hd;rw[(h5 _ (RK hi)).2.1] at hp;cases hp
 ·rw[h4] at ha;cases ha
 ·rw[h4] at ha;cases ha
 ·rw[h4];exact .nil
theorem AeM {loads:List Ld} {sil:List Si} {m:Me} (hm:BX m=0) (h:NL (m.nodes.map pi) [] m.slot) (hs:m.slot<16384):
  BX (Cz m loads sil)=0/\(Cz m loads sil).slot=m.slot+1/\(D7 (Cz m loads sil)).length=m.nodes.length/\(Cz m loads sil).nodes.length=m.nodes.length/\NL ((Cz m loads sil).nodes.map pi) [] (Cz m loads sil).slot /\
  ∀i,i<m.nodes.length->upP (D7 (Cz m loads sil)) m.nodes.length i=-1:=by
 have hn:=Aaa loads sil hm hs h;obtain⟨c1,c2,c3,_⟩:=Ed (loads:=loads) (sil:=sil) hm 1 (by omega);have c1:BX (Cz m loads sil)=0:=c1;have c2:(Cz m loads sil).slot=m.slot+1:=c2;have c3:(Cz m loads sil).nodes.length=m.nodes.length:=c3;have e:D7 (Cz m loads sil)=(Cz m loads sil).nodes.map fun x=>x.rk.parent:=AgY (fun hn=>hn c1)
 rw[<-c2] at hn;refine⟨c1,c2,by rw[e,Agz,c3],c3,hn,fun i hi=>?_⟩;rw[e,<-c3];exact AeL hn (by omega)
end Go.Proofs.M
end
