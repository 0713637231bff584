/-
  What functions of the program hand back, and plain laws on that. No condition.
-/
import Derived.Test.YtdlcbilgemnomaaGreatSxMag
import Derived.Test.YtdlcbilgemnomaaGreatSxMak
import Derived.Test.YtdlcbilgemnomaaGreatSxMaj
import Derived.Test.YtdlcbilgemnomaaGreatSxMai
set_option linter.unusedSimpArgs false
set_option linter.unusedVariables false
section
namespace Go.Proofs.M
open Go Go.Sx Go.Proofs Go.Proofs.T Go.Proofs.Q
open Go.Proofs.P (Nb nbs Rk rkA rkErr checkNb hearM countM forgetM select')
open Go.Proofs.R (startM advM)
theorem Nl {s:Sta} (h1:Ci s.tb=0) (h2:CY s=true) (h3:Gm s.held=true) (h4:Hk s.seen=true) (h5:(s.Bm=-1/\s.tries=0)\/(0<=s.Bm/\1<=s.tries/\s.tries<4)) (h6:R0 s=true):
  AT (Dw s)=0/\(Dw s).tb=s.tb/\(Dw s).qu=s.qu:=by
 unfold Dw
 split
 ·exact⟨Ct h1 h2 h3 h4 (Aed (.inl ⟨rfl,rfl⟩)) h6,rfl,rfl⟩
 ·rename_i hn;refine⟨Ct h1 h2 h3 h4 (Aed ?_) h6,rfl,rfl⟩;rcases h5 with h5|h5
  ·exact .inl h5
  ·refine .inr ⟨h5.1,?_,h5.2⟩;cases hh:hasB s.qu.Af s.Bm with
   |true=>rfl
   |false=>exact absurd ⟨h5.1,hh⟩ hn
theorem Nf {s:Sta} (h:Iq s=true):(s.Bm=-1/\s.tries=0)\/(0<=s.Bm/\1<=s.tries/\s.tries<4):=by
 have h:=AeC h;rcases h with h|h
 ·exact .inl h
 ·exact .inr ⟨h.1,h.2.2⟩
theorem Ob {l:List Hd} (h:Gm l=true) (p:Hd->Bool):Gm (l.filter p)=true:=by
 obtain⟨h1,h2⟩:=DZ h;have hr:MW Hd.Ca l:=UE h;have hr2:MW Hd.Ca (l.filter p):=TS ((TO hr).filter _);have hle:(l.filter p).length<=l.length:=AeN _ _;unfold Gm;rw[EL fun i hi=>?_,Aed (show(((l.filter p).length:Nat):Int)<=16 by omega)]
 ·rfl
 refine Aee ?_;obtain⟨k,hk,e⟩:=DY (AeM.1 (Cv hi)).1;have h3:=h2 k hk;rw[e] at h3;rintro(h4|h4|⟨h0,h4⟩)
 ·rw[h3.1] at h4;cases h4
 ·omega
 ·have:=hr2 (i-1) i (by omega) hi;omega
theorem U6 {s:Sta} {slot:Int} (hck:AT s=0) (hs:0<=slot/\slot<=109951162):(Cy s slot).2.2=0/\AT (Cy s slot).1=0/\(Cy s slot).1.tb=s.tb/\(Cy s slot).1.qu.Af=Q6 s.qu.Af slot:=by
 obtain⟨h1,h2,h3,h4,h5,h6,h7⟩:=Bl hck;unfold Cy;rw[AeS (by omega),AeS (by omega)];have hq:(CS s.qu slot).1=⟨s.qu.Bk,Q6 s.qu.Af slot⟩:=by unfold CS;rw[AeS (by omega)]
 have hp:CY {s with held:=s.held.filter fun h=>!decide (h.til<slot),qu:=(CS s.qu slot).1}=true:=DP hck (List.filter_sublist) rfl hq;obtain⟨r1,r2,r3⟩:=Nl (s:={s with held:=s.held.filter fun h=>!decide (h.til<slot),qu:=(CS s.qu slot).1}) h1 hp (Ob h4 _) h5 (Nf (s:=s) h6) h7;refine⟨rfl,r1,r2,?_⟩;show(Dw _).qu.Af=_;rw[r3,hq]
theorem TV {s:Sta} {p:Pk} (hck:AT s=0) (h0:(Jj s p).2.2=0):AT (Jj s p).1=0/\(Jj s p).1.tb=s.tb/\(Jj s p).1.qu=(E7 s.qu p).1:=by
 obtain⟨h1,h2,h3,h4,h5,h6,h7⟩:=Bl hck;unfold Jj at h0 ⊢;rw[AeS (by omega)] at h0 ⊢;by_cases e1:(E7 s.qu p).2.2=0
 ·rw[AeS (by omega)] at h0 ⊢;by_cases e2:p.to=s.tb.node
  ·rw[AeT e2] at h0;cases h0
  ·rw[AeS e2] at h0 ⊢;by_cases e3:100<p.data.size
   ·rw[AeT e3] at h0;cases h0
   ·rw[AeS e3];have hq:=Q.Zm h2 e1;have hlim:=hq.2.1;have hcq:Bq (E7 s.qu p).1=0:=by
     have:=NH hq.2.2.1;rw[<-hlim] at this;exact this
    have hp:CY {s with qu:=(E7 s.qu p).1}=true:=by
     unfold CY;rw[show({s with qu:=(E7 s.qu p).1}:Sta).qu=(E7 s.qu p).1 from rfl,hcq,Aew.2 fun x hx=>?_]
     ·rfl
     ·rcases Wz h2 e1 hx with rfl|hx
      ·show ¬VW s.tb.node x=true;unfold VW;simp only[Aef];omega
      ·rw[show({s with qu:=(E7 s.qu p).1}:Sta).tb=s.tb from rfl,h3 x hx];simp
    have:=Nl (s:={s with qu:=(E7 s.qu p).1}) h1 hp h4 h5 (Nf (s:=s) h6) h7;exact⟨this.1,this.2.1,this.2.2⟩
 ·rw[AeT e1] at h0;exact absurd h0 e1
theorem Re {s:Sta} {slot:Int} (r:Rs) (hck:AT s=0) (hs:0<=slot/\slot<=109951162):ES s slot r=((CT s slot (atM s.tb slot).1 r).1,(CT s slot (atM s.tb slot).1 r).2,0) /\
  XE s (CT s slot (atM s.tb slot).1 r).1:=by
 refine⟨?_,(ZZ r hck (X7 s.tb slot (Bl hck).1)).1⟩;unfold ES;rw[AeS (by omega),AeS (by omega)]
theorem Wu {s:Sta} {old new:Int} (hck:AT s=0) (hn:-1<=new/\new<=31) (hne:new≠s.tb.node):AT {s with qu:=⟨s.qu.Bk,s.qu.Af.map (Eg old new)⟩}=0:=by
 obtain⟨h1,h2,h3,h4,h5,h6,h7⟩:=Bl hck;have hid:∀p,(Eg old new p).id=p.id/\(Eg old new p).prio=p.prio/\(Eg old new p).data=p.data:=fun p=>by unfold Eg;split<;>exact⟨rfl,rfl,rfl⟩
 have hok:=T7 h2;have hcq:Bq ⟨s.qu.Bk,s.qu.Af.map (Eg old new)⟩=0:=by
  refine NH ⟨hok.bnd,by rw[Aet];exact hok.len,fun x hx=>?_,?_⟩
  ·obtain⟨p,hp,rfl⟩:=AeO.1 hx;have hf:=hok.form p hp;unfold Eg
   split
   ·rename_i ht;unfold Fm at hf ⊢;by_cases hnn:p.id<0\/inI p.to (-1) 31=false\/inI p.prio 0 3=false\/inI p.born 0 1099511627776=false\/inI p.XV 1 4096=false
    ·rw[AeT hnn] at hf;cases hf
    ·rw[AeS hnn] at hf;rw[AeS]
     ·exact hf
     ·rintro(g|g|g)
      ·exact hnn (.inl g)
      ·have:inI new (-1) 31=true:=Aed hn;rw[show inI ({p with to:=new}:Pk).to (-1) 31=inI new (-1) 31 from rfl,this] at g;cases g
      ·exact hnn (.inr (.inr g))
   ·exact hf
  ·rw[List.pairwise_map];exact hok.pair.imp fun{a b} h=>by rw[(hid a).1,(hid b).1,(hid a).2.1,(hid b).2.1];exact h
 refine Ct h1 ?_ h4 h5 ?_ h7
 ·unfold CY;rw[show({s with qu:=⟨s.qu.Bk,s.qu.Af.map (Eg old new)⟩}:Sta).qu=⟨s.qu.Bk,s.qu.Af.map (Eg old new)⟩ from rfl,hcq,Aew.2 fun x hx=>?_]
  ·rfl
  ·obtain⟨p,hp,rfl⟩:=AeO.1 hx;have:=AeD (h3 p hp);show ¬VW s.tb.node (Eg old new p)=true;unfold VW;simp only[Aef];rw[(hid p).2.2];unfold Eg
   split
   ·show ¬(new=_\/_);omega
   ·omega
 ·have h6:=AeC h6;refine Aed ?_;rcases h6 with h6|h6
  ·exact .inl h6
  ·refine .inr ⟨h6.1,?_,h6.2.2⟩;show hasB (s.qu.Af.map (Eg old new)) s.Bm=true;rw[<-h6.2.1];unfold hasB;rw[List.any_map]
   congr 1
   funext p
   exact decide_eq_decide.2 (by show(Eg old new p).id=_↔_;rw[(hid p).1])
structure RN (n:Nat) (T:Tb) (i:Nat) (x:MN):Prop where
 st:AT x.st=0
 nd:x.st.tb.node=i
 len:x.st.tb.len=T.len
 sp:G4 x.st.tb=G4 T
 rk:rkErr x.rk=0
 rn:x.rk.node=i
 rp:x.rk.parent<n
 nb:checkNb x.nb=0
 nn:∀y∈x.nb,y.node<n
 nx:0<=x.next/\x.next<=65535
theorem Iv {m:Me} {i:Nat}:FR m i=true↔RN m.nodes.length (m.nodes.getD 0 default).st.tb i (m.nodes.getD i default):=by
 unfold FR;simp only[Aen,Aef,Bool.not_eq_true',Aew];constructor
 ·rintro⟨⟨⟨⟨a1,a2,a3,a4⟩,b1,b2,b3,b4⟩,c⟩,d⟩;exact⟨a1,a2,a3,a4,b1,b2,b3,b4,fun y hy=>by have:=c y hy;omega,d⟩
 ·intro h;exact⟨⟨⟨⟨h.st,h.nd,h.len,h.sp⟩,h.rk,h.rn,h.rp,h.nb⟩,fun y hy=>by have:=h.nn y hy;omega⟩,h.nx⟩
structure Hdr (m:Me):Prop where
 n1:1<=m.nodes.length
 n2:m.nodes.length<=32
 s1:0<=m.slot
 s2:m.slot<=16384
 t1:1<=m.turns
 t2:m.turns<=32
 a1:m.arr.length<=4096
theorem DU {m:Me}:Cj m=0↔Hdr m/\∀i,i<m.nodes.length->RN m.nodes.length (m.nodes.getD 0 default).st.tb i (m.nodes.getD i default):=by
 unfold Cj;constructor
 ·intro h
  split at h
  ·cases h
  ·rename_i hn
   split at h
   ·cases h
   ·rename_i ha;refine⟨⟨by omega,by omega,by omega,by omega,by omega,by omega,by omega⟩,fun i hi=>?_⟩;rw[<-Iv];rw[Bool.not_eq_true,Aew] at ha;have:=ha i (AeL.2 hi);simpa using this
 ·rintro⟨h,hr⟩;have:=h.n1;have:=h.n2;have:=h.s1;have:=h.s2;have:=h.t1;have:=h.t2;have:=h.a1;rw[AeS (by omega),AeS];rw[Bool.not_eq_true,Aew];intro i hi;rw[Iv.2 (hr i (AeL.1 hi))];simp
theorem RN.Wl {n:Nat} {T:Tb} {i:Nat} {x:MN} (h:RN n T i x) {s:Sta} (hc:AT s=0) (ht:s.tb=x.st.tb):RN n T i {x with st:=s}:=
 ⟨hc,by show s.tb.node=_;rw[ht];exact h.nd,by show s.tb.len=_;rw[ht];exact h.len,by show G4 s.tb=_;rw[ht];exact h.sp,h.rk,h.rn,h.rp,h.nb,h.nn,h.nx⟩
theorem AbK {n:Nat} {T:Tb} {i:Nat} {x:MN} {slot:Int} (h:RN n T i x) (hs:0<=slot/\slot<=109951162):RN n T i (Mw slot x):=by
 obtain⟨h1,h2,h3,_⟩:=U6 h.st hs;unfold Mw;rw[AeT h1];exact h.Wl h2 h3
theorem UM {n:Nat} {T:Tb} {i:Nat} {x:MN} {slot:Int} (d:ByteArray) (h:RN n T i x):RN n T i (Hr slot x d):=by
 unfold Hr
 split
 ·exact h
 ·split
  ·rename_i h0;obtain⟨h1,h2,_⟩:=TV h.st h0;have:=h.Wl h1 h2;have hx:=h.nx;exact⟨this.st,this.nd,this.len,this.sp,h.rk,h.rn,h.rp,h.nb,h.nn,by show 0<=(x.next+1) % 65536/\(x.next+1) % 65536<=65535;omega⟩
  ·exact h
theorem PF {n:Nat} {T:Tb} {i:Nat} {slot j:Int}:∀(ls:List Ld) {x:MN},RN n T i x->RN n T i (Eh slot j ls x)
 |[],_,h=>h
 |l :: ls,x,h=>by
  unfold Eh
  split
  ·exact PF ls (UM _ h)
  ·exact PF ls h
theorem Ab8 {n:Nat} {T:Tb} {i:Nat} {x:MN} {slot turns:Int} (h:RN n T i x):RN n T i (Fb slot turns x).1:=by
 unfold Fb
 split
 ·rename_i hd;have hk:x.rk.rank≠65535:=fun e=>by
   have:=hd.2;unfold advM at this;rw[AeS (by have:=h.rk;omega),AeT e] at this;cases this
  obtain⟨_,a2,_,_,_,a6⟩:=R.VH h.rk hk;refine⟨h.st,h.nd,h.len,h.sp,a6,?_,?_,h.nb,h.nn,h.nx⟩
  ·show(advM x.rk).1.node=_;rw[a2];exact h.rn
  ·show(advM x.rk).1.parent<_;rw[a2];exact h.rp
 ·exact h
theorem XD {n:Nat} {T:Tb} {i:Nat} {x:MN} {slot turns:Int} (h:RN n T i x) (hi:i<=31) (hs:0<=slot/\slot<=109951162) (k1:(Fb slot turns x).2.1.kind=1):
  (Fb slot turns x).2.1.source=i/\H5 (Tg (Fb slot turns x).2.1)=0/\((Fb slot turns x).2.1.B1=3↔(Fb slot turns x).2.2=true) /\
   ((Fb slot turns x).2.2=true->(Fb slot turns x).2.1.target=-1/\Tg (Fb slot turns x).2.1=bcF x.rk slot/\x.rk.rank≠65535):=by
 unfold Fb at k1 ⊢
 split
 ·rename_i hd;have hk:x.rk.rank≠65535:=fun e=>by
   have:=hd.2;unfold advM at this;rw[AeS (by have:=h.rk;omega),AeT e] at this;cases this
  obtain⟨_,_,a3,a4,a5,_⟩:=R.VH h.rk hk;have hb:=X6 (src:=i) (slot:=slot.toNat) (rank:=x.rk.rank.toNat) (epoch:=x.rk.epoch.toNat) (d:=Zr false) hi (by omega) (by omega) (by omega);have e:bcn i slot.toNat x.rk.rank.toNat x.rk.epoch.toNat (Zr false)=bcF x.rk slot:=by
   unfold bcn bcF;rw[h.rn,show((slot.toNat:Nat):Int)=slot by omega,show((x.rk.rank.toNat:Nat):Int)=x.rk.rank by omega,show((x.rk.epoch.toNat:Nat):Int)=x.rk.epoch by omega]
  rw[e] at hb;exact⟨h.rn,hb,⟨fun _=>rfl,fun _=>rfl⟩,fun _=>⟨rfl,rfl,hk⟩⟩
 ·rename_i hd;rw[AeS hd] at k1;dsimp only at k1 ⊢;have ha:Ru x.st slot=(CV x.st slot (atM x.st.tb slot).1,0):=by
   unfold Ru;rw[AeS (by have:=h.st;omega),AeS (by omega)]
  rw[ha] at k1 ⊢;obtain⟨f1,f2,f3,f4,_⟩:=VM h.st (X7 x.st.tb slot (Bl h.st).1) k1;refine⟨f4.trans h.nd,(IH _).2 f1,⟨fun h3=>?_,fun h3=>nomatch h3⟩,fun h3=>nomatch h3⟩;dsimp only at h3;rcases f3 with f3|f3<;>omega
theorem D9 (f:Wk->Wk):∀(l:List Wk) (arr:List Ar),Bs (fun a w=>(a,f w)) arr l=(arr,l.map f)
 |[],_=>rfl
 |w :: l,arr=>by
  unfold Bs;rw[D9 f l arr];rfl
theorem E6 {α:Type} [Inhabited α] {n i:Nat} (f:Nat->α) (h:i<n):((List.range n).map f).getD i default=f i:=by
 simp[Aec,h]
theorem Oq {α:Type} [Inhabited α] {l:List α} {n:Nat} {f:Nat->α} (hl:l.length=n) (h:∀i,i<n->l.getD i default=f i):l=(List.range n).map f:=by
 refine List.ext_getElem (by simp[hl]) fun i h1 h2=>?_
 have:=h i (by omega);rw[Aec,Ael h1] at this;simpa using this
def Acm (m:Me) (loads:List Ld) (i:Nat):MN:=Eh m.slot i loads (Mw m.slot (m.nodes.getD i default))
def wk1 (m:Me) (loads:List Ld) (i:Nat):Wk:=⟨(Fb m.slot m.turns (Acm m loads i)).1,i,(Fb m.slot m.turns (Acm m loads i)).2.1,(Fb m.slot m.turns (Acm m loads i)).2.2,zRs,zUp⟩
theorem Ny (m:Me) (loads:List Ld):FT m loads=(List.range m.nodes.length).map (wk1 m loads):=by
 have e1:=D9 (fun w=>{w with nd:=Mw m.slot w.nd}) (C6 m) [];have e2:=D9 (fun w=>{w with nd:=Eh m.slot w.node loads w.nd}) ((C6 m).map fun w=>{w with nd:=Mw m.slot w.nd}) [];have e3:=D9 (fun w=>{w with nd:=(Fb m.slot m.turns w.nd).1,ac:=(Fb m.slot m.turns w.nd).2.1,bc:=w.bc||(Fb m.slot m.turns w.nd).2.2}) (((C6 m).map fun w=>{w with nd:=Mw m.slot w.nd}).map fun w=>{w with nd:=Eh m.slot w.node loads w.nd}) [];show(Bs (fun a w=>(a,{w with nd:=(Fb m.slot m.turns w.nd).1,ac:=(Fb m.slot m.turns w.nd).2.1,bc:=w.bc||(Fb m.slot m.turns w.nd).2.2})) [] (Bs (fun a w=>(a,{w with nd:=Eh m.slot w.node loads w.nd})) [] (Bs (fun a w=>(a,{w with nd:=Mw m.slot w.nd})) [] (C6 m)).2).2).2=_;rw[e1];show(Bs (fun a w=>(a,{w with nd:=(Fb m.slot m.turns w.nd).1,ac:=(Fb m.slot m.turns w.nd).2.1,bc:=w.bc||(Fb m.slot m.turns w.nd).2.2})) [] (Bs (fun a w=>(a,{w with nd:=Eh m.slot w.node loads w.nd})) [] ((C6 m).map fun w=>{w with nd:=Mw m.slot w.nd})).2).2=_;rw[e2];show(Bs (fun a w=>(a,{w with nd:=(Fb m.slot m.turns w.nd).1,ac:=(Fb m.slot m.turns w.nd).2.1,bc:=w.bc||(Fb m.slot m.turns w.nd).2.2})) [] (((C6 m).map fun w=>{w with nd:=Mw m.slot w.nd}).map fun w=>{w with nd:=Eh m.slot w.node loads w.nd})).2=_;rw[e3];unfold C6;simp only[List.map_map]
 rfl
def FW (sil:List Si) (slot:Int) (X:List Wk) (i:Nat):Option Nat:=
 if(X.getD i default).ac.kind≠2 then none else match Bt sil slot X i with
  |[j]=>some j
  |_=>none
def VY (sil:List Si) (slot:Int) (X:List Wk) (i j:Nat):Bool:=
 decide (FW sil slot X i=some j)&&decide ((X.getD j default).ac.target=(X.getD i default).node)&&G7 sil (X.getD i default).node (X.getD j default).node slot
def rsK (sil:List Si) (slot:Int) (X:List Wk) (k j:Nat):Rs:=
 if(X.getD j default).ac.kind=2 then
  match (if j<k then FW sil slot X j else none) with
  |some s=>X0 (Tg (X.getD s default).ac)
  |none=>(X.getD j default).rs
 else{(X.getD j default).rs with AQ:=(X.getD j default).rs.AQ||(List.range k).any fun i=>VY sil slot X i j}
theorem Kf {sil:List Si} {slot:Int} {X:List Wk} {i j:Nat} (h:FW sil slot X i=some j):(X.getD i default).ac.kind=2/\j<X.length/\(X.getD j default).ac.kind=1/\j≠i:=by
 unfold FW at h
 split at h
 ·cases h
 ·rename_i hk
  split at h
  ·rename_i q hs;injection h with h
   subst h;have hm:q∈Bt sil slot X i:=by rw[hs];simp
   unfold Bt at hm;rw[AeM,AeL] at hm;simp only[Aen,Aef] at hm;exact⟨by omega,hm.1,hm.2.1.1.2,hm.2.1.1.1⟩
  ·cases h
structure Rv (X Y:List Wk):Prop where
 len:Y.length=X.length
 at':∀j,(Y.getD j default).ac=(X.getD j default).ac/\(Y.getD j default).node=(X.getD j default).node
theorem Rv.Zc {X Y:List Wk} (h:Rv X Y) (sil:List Si) (slot:Int) (i:Nat):Bt sil slot Y i=Bt sil slot X i:=by
 unfold Bt;rw[h.len];refine List.filter_congr fun j _=>?_
 rw[(h.at' j).1,(h.at' j).2,(h.at' i).1,(h.at' i).2]
theorem KV (sil:List Si) (slot:Int) (X:List Wk) (i:Nat):Cf sil slot X i=match FW sil slot X i with
  |some j=>DA sil slot X i j
  |none=>X:=by
 unfold Cf FW
 split
 ·rfl
 ·split<;>simp_all
theorem Aaj {X:List Wk} {i j:Nat} {w:Wk} (hi:i<X.length):(X.set i w).getD j default=if j=i then w else X.getD j default:=by
 by_cases h:j=i
 ·subst h;simp[Aec,hi]
 ·simp[Aec,h,AeA (Ne.symm h)]
theorem NZ (sil:List Si) (slot:Int) (X:List Wk):∀k,k<=X.length->Rv X (DQ sil slot X k)/\∀j,j<X.length->(DQ sil slot X k).getD j default={X.getD j default with rs:=rsK sil slot X k j}
 |0,_=>by
  refine⟨⟨rfl,fun j=>⟨rfl,rfl⟩⟩,fun j hj=>?_⟩;show X.getD j default=_;have e:rsK sil slot X 0 j=(X.getD j default).rs:=by
   unfold rsK;by_cases h2:(X.getD j default).ac.kind=2
   ·rw[AeT h2,AeS (AeQ _)]
   ·rw[AeS h2,List.range_zero,List.any_nil,Bool.or_false]
  rw[e]
 |k+1,hk=>by
  obtain⟨hs,hat⟩:=NZ sil slot X k (by omega);have hsnd:=hs.Zc sil slot k;have hh:FW sil slot (DQ sil slot X k) k=FW sil slot X k:=by
   unfold FW;rw[hsnd,(hs.at' k).1]
  show Rv X (Cf sil slot (DQ sil slot X k) k)/\∀j,j<X.length->(Cf sil slot (DQ sil slot X k) k).getD j default=_;rw[KV,hh];have hstep:∀j,rsK sil slot X (k+1) j=if(X.getD j default).ac.kind=2 then(if j=k then(match FW sil slot X k with|some s=>X0 (Tg (X.getD s default).ac)|none=>(X.getD j default).rs) else rsK sil slot X k j)
    else{rsK sil slot X k j with AQ:=(rsK sil slot X k j).AQ||VY sil slot X k j}:=by
   intro j;by_cases h2:(X.getD j default).ac.kind=2
   ·rw[AeT h2];unfold rsK;rw[AeT h2,AeT h2];by_cases hj:j=k
    ·subst hj;rw[AeT (by omega),AeT rfl]
    ·rw[AeS hj];by_cases hj2:j<k
     ·rw[AeT (by omega),AeT hj2]
     ·rw[AeS (by omega),AeS hj2]
   ·rw[AeS h2];unfold rsK;rw[AeS h2,AeS h2,List.range_succ,List.any_append];simp[Bool.or_assoc]
  cases hr:FW sil slot X k with
  |none=>
   refine⟨hs,fun j hj=>?_⟩;dsimp only;rw[hat j hj,hstep j];have ha:VY sil slot X k j=false:=by unfold VY;rw[hr];simp
   rw[ha,hr];by_cases h2:(X.getD j default).ac.kind=2
   ·rw[AeT h2];by_cases hj2:j=k
    ·rw[AeT hj2];have:rsK sil slot X k j=(X.getD j default).rs:=by unfold rsK;rw[AeT h2,AeS (by omega)]
     rw[this]
    ·rw[AeS hj2]
   ·rw[AeS h2,Bool.or_false]
  |some q=>
   obtain⟨a1,a2,a3,a4⟩:=Kf hr;have hkl:k<(DQ sil slot X k).length:=by rw[hs.len];omega
   have hql:q<(DQ sil slot X k).length:=by rw[hs.len];omega
   dsimp only;have key:∀j,j<X.length->(DA sil slot (DQ sil slot X k) k q).getD j default={X.getD j default with rs:=rsK sil slot X (k+1) j}/\(DA sil slot (DQ sil slot X k) k q).length=X.length:=by
    intro j hj;unfold DA;rw[(hs.at' q).1,(hs.at' k).2,(hs.at' q).2];have hrk:∀jj,rsK sil slot X k q={(X.getD q default).rs with AQ:=(rsK sil slot X k q).AQ}:=fun _=>by unfold rsK;rw[AeS (by omega)]
    rw[hstep j]
    split
    ·rename_i hc;have hab:VY sil slot X k q=true:=by unfold VY;rw[Aed hr,Aed hc.1,hc.2];rfl
     refine⟨?_,by simp[hs.len]⟩;rw[Aaj (by simpa using hql),hat q (by omega),hat k (by omega)];by_cases e1:j=q
     ·subst e1;rw[AeT rfl,AeS (by omega),hab];simp
     ·rw[AeS e1,Aaj hkl];by_cases e2:j=k
      ·subst e2;rw[AeT rfl,AeT a1,AeT rfl,hr]
      ·rw[AeS e2,hat j hj,AeS e2];by_cases h2:(X.getD j default).ac.kind=2
       ·rw[AeT h2]
       ·rw[AeS h2];have:VY sil slot X k j=false:=by unfold VY;rw[hr];simp[Ne.symm e1]
        rw[this,Bool.or_false]
    ·rename_i hc;refine⟨?_,by simp[hs.len]⟩;rw[Aaj hkl,hat k (by omega)];by_cases e2:j=k
     ·subst e2;rw[AeT rfl,AeT a1,AeT rfl,hr]
     ·rw[AeS e2,hat j hj,AeS e2];by_cases h2:(X.getD j default).ac.kind=2
      ·rw[AeT h2]
      ·rw[AeS h2];have:VY sil slot X k j=false:=by
        unfold VY;rw[hr];by_cases e1:j=q
        ·subst e1;by_cases hh1:(X.getD j default).ac.target=(X.getD k default).node
         ·have:G7 sil (X.getD k default).node (X.getD j default).node slot=false:=by
           cases hx:G7 sil (X.getD k default).node (X.getD j default).node slot with
           |true=>exact absurd ⟨hh1,hx⟩ hc
           |false=>rfl
          rw[this,Bool.and_false]
         ·rw[Aee hh1];simp
        ·simp[Ne.symm e1]
       rw[this,Bool.or_false]
   refine⟨⟨(key 0 (by omega)).2,fun j=>?_⟩,fun j hj=>(key j hj).1⟩;by_cases hj:j<X.length
   ·rw[(key j hj).1];exact⟨rfl,rfl⟩
   ·have hl:=(key 0 (by omega)).2;rw[Aec,Aec,AeJ (by omega),AeJ (by omega)];exact⟨rfl,rfl⟩
theorem ZN (slot:Int) (a b:List Ar) (w:Wk):(HA slot a w).2=(HA slot b w).2:=by
 unfold HA
 split
 ·rfl
 ·split<;>rfl
theorem NW (slot:Int):∀(l:List Wk) (arr:List Ar),(Bs (HA slot) arr l).2=l.map fun w=>(HA slot [] w).2
 |[],_=>rfl
 |w :: l,arr=>by
  unfold Bs;rw[NW slot l,ZN slot arr []];rfl
theorem ZO {slot:Int} {arr:List Ar} {w:Wk} (h:w.node≠0):(HA slot arr w).1=arr:=by
 unfold HA
 split
 ·rfl
 ·first|rfl|(rw[AeT h])
theorem NX (slot:Int):∀(l:List Wk) (arr:List Ar),(∀w∈l,w.node≠0)->(Bs (HA slot) arr l).1=arr
 |[],_,_=>rfl
 |w :: l,arr,h=>by
  unfold Bs;rw[NX slot l _ fun x hx=>h x (by simp[hx])];exact ZO (h w (by simp))
def wk2 (m:Me) (loads:List Ld) (sil:List Si) (i:Nat):Wk:={wk1 m loads i with rs:=rsK sil m.slot (FT m loads) m.nodes.length i}
def wk3 (m:Me) (loads:List Ld) (sil:List Si) (i:Nat):Wk:=Gj (EC m.slot (DS m.slot (wk2 m loads sil i)))
def WJ (m:Me) (loads:List Ld) (sil:List Si) (i:Nat):MN:=E9 m.slot (HA m.slot [] (wk3 m loads sil i)).2.nd
theorem Lg (m:Me) (loads:List Ld):(FT m loads).length=m.nodes.length:=by rw[Ny];simp
theorem HN (m:Me) (loads:List Ld) {i:Nat} (hi:i<m.nodes.length):(FT m loads).getD i default=wk1 m loads i:=by rw[Ny];exact E6 _ hi
theorem TZ (m:Me) (loads:List Ld) (sil:List Si):Gh m loads sil=(List.range m.nodes.length).map (wk2 m loads sil):=by
 have hl:=Lg m loads;obtain⟨h1,h2⟩:=NZ sil m.slot (FT m loads) m.nodes.length (by omega);refine Oq (h1.len.trans hl) fun i hi=>?_
 show(DQ sil m.slot (FT m loads) m.nodes.length).getD i default=_;rw[h2 i (by omega),HN m loads hi];rfl
theorem Ub (slot:Int) (w:Wk):(Gj (EC slot (DS slot w))).node=w.node:=by
 have h1:(DS slot w).node=w.node:=by
  unfold DS
  split
  ·rfl
  ·split<;>rfl
 have h2:(EC slot (DS slot w)).node=w.node:=by
  unfold EC
  split<;>exact h1
 unfold Gj
 split<;>exact h2
theorem V2 (m:Me) (loads:List Ld) (sil:List Si) (i:Nat):(wk3 m loads sil i).node=i:=Ub _ _
theorem Nx (m:Me) (loads:List Ld) (sil:List Si):(Fg m loads sil).2=(List.range m.nodes.length).map (fun i=>(HA m.slot [] (wk3 m loads sil i)).2) /\
  (Fg m loads sil).1=if 0<m.nodes.length then(HA m.slot m.arr (wk3 m loads sil 0)).1 else m.arr:=by
 have e1:=D9 (DS m.slot) (Gh m loads sil) [];have e2:=D9 (fun w=>Gj (EC m.slot w)) ((Gh m loads sil).map (DS m.slot)) [];have e:Fg m loads sil=Bs (HA m.slot) m.arr ((List.range m.nodes.length).map (wk3 m loads sil)):=by
  show Bs (HA m.slot) m.arr (Bs (fun a w=>(a,Gj (EC m.slot w))) [] (Bs (fun a w=>(a,DS m.slot w)) [] (Gh m loads sil)).2).2=_;rw[e1];show Bs (HA m.slot) m.arr (Bs (fun a w=>(a,Gj (EC m.slot w))) [] ((Gh m loads sil).map (DS m.slot))).2=_;rw[e2,TZ];simp only[List.map_map]
  rfl
 rw[e];refine⟨?_,?_⟩
 ·rw[NW,List.map_map];rfl
 ·by_cases h0:0<m.nodes.length
  ·rw[AeT h0];obtain⟨n,hn⟩:∃n,m.nodes.length=n+1:=⟨m.nodes.length-1,by omega⟩;rw[hn,List.range_succ_eq_map,List.map_cons,List.map_map];unfold Bs;refine NX _ _ _ fun w hw=>?_
   obtain⟨i,_,rfl⟩:=AeO.1 hw;show(wk3 m loads sil (i+1)).node≠0;rw[V2];omega
  ·have:m.nodes.length=0:=by omega
   rw[AeS h0,this];rfl
def Adt (m:Me) (loads:List Ld) (sil:List Si):List Ar:=(Fg m loads sil).1
theorem Jb (m:Me) (loads:List Ld) (sil:List Si):GX m loads sil=⟨(List.range m.nodes.length).map (WJ m loads sil),m.slot+1,m.turns,Adt m loads sil⟩:=by
 have e:=D9 (fun w=>{w with nd:=E9 m.slot w.nd}) (Fg m loads sil).2 [];show(⟨((Bs (fun a w=>(a,{w with nd:=E9 m.slot w.nd})) [] (Fg m loads sil).2).2).map (·.nd),m.slot+1,m.turns,(Fg m loads sil).1⟩:Me)=_;rw[e,(Nx m loads sil).1];simp only[List.map_map]
 rfl
theorem Abm {m:Me} {loads:List Ld} {T:Tb} {i:Nat} (h:RN m.nodes.length T i (m.nodes.getD i default)) (hs:0<=m.slot/\m.slot<=109951162):RN m.nodes.length T i (Acm m loads i):=PF _ (AbK h hs)
theorem Wq {m:Me} {loads:List Ld} {sil:List Si} {i:Nat} (hi:i<m.nodes.length) (h:(wk2 m loads sil i).rs.heard=true):
  ∃j,j<m.nodes.length/\(wk1 m loads j).ac.kind=1/\AcZ (wk2 m loads sil i).rs=Tg (wk1 m loads j).ac/\(wk1 m loads i).ac.kind=2:=by
 have hl:=Lg m loads;have hz:(wk1 m loads i).rs=zRs:=rfl;have e:(wk2 m loads sil i).rs=rsK sil m.slot (FT m loads) m.nodes.length i:=rfl;rw[e] at h ⊢;unfold rsK at h ⊢;rw[HN m loads hi] at h ⊢;by_cases h2:(wk1 m loads i).ac.kind=2
 ·rw[AeT h2,AeT hi] at h;rw[AeT h2,AeT hi];cases hr:FW sil m.slot (FT m loads) i with
  |none=>rw[hr] at h;cases h
  |some j=>
   obtain⟨a1,a2,a3,a4⟩:=Kf hr;rw[hl] at a2;rw[HN m loads a2] at a3;refine⟨j,a2,a3,?_,h2⟩;show AcZ (X0 (Tg ((FT m loads).getD j default).ac))=_;rw[HN m loads a2];rfl
 ·rw[AeS h2,hz] at h;cases h
theorem ZM {l:List Nb} (h:checkNb l=0) {t e k s:Int} (h0:(hearM l t e k s).2=0):checkNb (hearM l t e k s).1=0/\(hearM l t e k s).1=P.KY l t e k s:=by
 unfold hearM at h0 ⊢;rw[AeS (by omega)] at h0 ⊢
 split at h0
 ·cases h0
 ·rename_i hh;have hh:P.DF t e k s=true:=by simpa using hh
  rw[AeS (by rw[hh];simp)]
  split at h0
  ·cases h0
  ·rename_i hs;rw[AeS hs];exact⟨P.SC h hh,rfl⟩
theorem Xl {l:List Nb} (h:checkNb l=0) {t:Int} {b:Bool} (h0:(countM l t b).2=0):checkNb (countM l t b).1=0/\P.BS l t=true/\(countM l t b).1=l.set (P.C5 l t) (P.cnt (l.getD (P.C5 l t) default) b):=by
 unfold countM at h0 ⊢;rw[AeS (by omega)] at h0 ⊢
 split at h0
 ·cases h0
 ·rename_i hf;rw[AeS hf];have hf:P.BS l t=true:=by simpa using hf
  exact⟨P.Vp h (P.CG.1 hf).1,hf,rfl⟩
theorem Xm (x:Nb) (b:Bool):(P.cnt x b).node=x.node/\(P.cnt x b).epoch=x.epoch/\(P.cnt x b).rank=x.rank/\(P.cnt x b).slot=x.slot:=by
 unfold P.cnt
 repeat' split
 all_goals exact⟨rfl,rfl,rfl,rfl⟩
theorem RN.Abj {n:Nat} {T:Tb} {i:Nat} {x:MN} (h:RN n T i x) {l:List Nb} (hc:checkNb l=0) (hn:∀y∈l,y.node<n):RN n T i {x with nb:=l}:=
 ⟨h.st,h.nd,h.len,h.sp,h.rk,h.rn,h.rp,hc,hn,h.nx⟩
theorem ZY {n:Nat} {T:Tb} {i:Nat} {w:Wk} {slot:Int} (h:RN n T i w.nd) (hs:0<=slot/\slot<=109951162):RN n T i (DS slot w).nd/\(DS slot w).rs=w.rs/\(DS slot w).ac=w.ac/\(DS slot w).nd.rk=w.nd.rk/\(DS slot w).nd.nb=w.nd.nb:=by
 unfold DS
 split
 ·exact⟨h,rfl,rfl,rfl,rfl⟩
 ·obtain⟨e,h1⟩:=Re (s:=w.nd.st) (slot:=slot) w.rs h.st hs;rw[e];rw[AeT rfl];exact⟨h.Wl h1.1 h1.2.2,rfl,rfl,rfl,rfl⟩
theorem WI {n:Nat} {T:Tb} {i:Nat} {w:Wk} {slot:Int} (h:RN n T i w.nd) (hsrc:w.rs.heard=true->w.rs.source<n):RN n T i (EC slot w).nd:=by
 unfold EC
 split
 ·rename_i hc;obtain⟨h1,h2⟩:=ZM h.nb hc.2.2;refine h.Abj h1 fun y hy=>?_
  rw[h2] at hy;rcases R.Ui hy with hy|hy
  ·exact h.nn y hy
  ·rw[hy.1];exact hsrc hc.1
 ·exact h
theorem WH {n:Nat} {T:Tb} {i:Nat} {w:Wk} (h:RN n T i w.nd):RN n T i (Gj w).nd:=by
 unfold Gj
 split
 ·rename_i hc;obtain⟨h1,h2,h3⟩:=Xl h.nb hc.2.2.2;refine h.Abj h1 fun y hy=>?_
  rw[h3] at hy;rcases List.mem_or_eq_of_mem_set hy with hy|hy
  ·exact h.nn y hy
  ·rw[hy,(Xm _ _).1];exact h.nn _ (R.Cv (P.CG.1 h2).1)
 ·exact h
theorem AbH {n:Nat} {T:Tb} {i:Nat} {w:Wk} {slot:Int} {arr:List Ar} (h:RN n T i w.nd):RN n T i (HA slot arr w).2.nd:=by
 unfold HA
 split
 ·exact h
 ·split
  ·exact UM _ h
  ·exact h
theorem UT {l:List Nb} (h:checkNb l=0) (slot:Int):checkNb (forgetM l slot 256)=0/\∀y∈forgetM l slot 256,y∈l:=by
 unfold forgetM
 split
 ·exact⟨R.Su h _ _,fun y hy=>(AeM.1 hy).1⟩
 ·exact⟨h,fun y hy=>hy⟩
theorem Vo {n:Nat} {T:Tb} {i:Nat} {x:MN} {slot:Int} (h:RN n T i x) (hn:n<=32):RN n T i (E9 slot x):=by
 obtain⟨f1,f2⟩:=UT h.nb slot;obtain⟨s1,s2,s3,s4,s5⟩:=R.Pj f1 h.rk (m:=64) (by omega);have hpar:(select' (forgetM x.nb slot 256) x.rk 64).1.parent<n:=by
  rcases s5 with s5|⟨b,hb,s5,_⟩|⟨s5,_⟩
  ·have:=h.rp;rw[s5];omega
  ·rw[<-s5];exact h.nn _ (f2 _ (R.Cv hb))
  ·rw[s5];exact h.rp
 unfold E9;rw[AeS (by omega)];have hb:RN n T i {x with nb:=forgetM x.nb slot 256,rk:=(select' (forgetM x.nb slot 256) x.rk 64).1}:=
  ⟨h.st,h.nd,h.len,h.sp,s2,s3.trans h.rn,hpar,f1,fun y hy=>h.nn y (f2 y hy),h.nx⟩
 split
 ·exact hb
 ·rename_i hc;have hp:0<=(select' (forgetM x.nb slot 256) x.rk 64).1.parent:=by omega
  obtain⟨_,_,q3,_⟩:=P.Nt s2 (by omega);refine hb.Wl (Wu h.st (by omega) ?_) rfl;rw[h.nd,<-h.rn,<-s3];exact q3
theorem XJ {m:Me} {loads:List Ld} {T:Tb} (hn:m.nodes.length<=32) (hs:0<=m.slot/\m.slot<=109951162) {i:Nat} (hi:i<m.nodes.length) (h:RN m.nodes.length T i (m.nodes.getD i default)):
  RN m.nodes.length T i (wk1 m loads i).nd/\((wk1 m loads i).ac.kind=1->(wk1 m loads i).ac.source=i/\H5 (Tg (wk1 m loads i).ac)=0/\((wk1 m loads i).ac.B1=3↔(wk1 m loads i).bc=true)):=by
 have hp:=Abm (loads:=loads) h hs;refine⟨Ab8 hp,fun k1=>?_⟩;obtain⟨a1,a2,a3,_⟩:=XD (turns:=m.turns) hp (by omega) hs k1;exact⟨a1,a2,a3⟩
theorem Aax {m:Me} {loads:List Ld} {sil:List Si} {T:Tb} (hn:m.nodes.length<=32) (hs:0<=m.slot/\m.slot<=109951162) (h:∀i,i<m.nodes.length->RN m.nodes.length T i (m.nodes.getD i default)) {i:Nat} (hi:i<m.nodes.length):
  RN m.nodes.length T i (wk3 m loads sil i).nd:=by
 have h1:=(XJ (loads:=loads) hn hs hi (h i hi)).1;obtain⟨d1,d2,d3,_⟩:=ZY (w:=wk2 m loads sil i) (slot:=m.slot) h1 hs;refine WH (WI d1 fun hh=>?_);rw[d2] at hh ⊢;obtain⟨j,hj,k1,e,_⟩:=Wq hi hh;have:=((XJ (loads:=loads) hn hs hj (h j hj)).2 k1).1;have e2:(wk2 m loads sil i).rs.source=(wk1 m loads j).ac.source:=congrArg Fr.source e;rw[e2,this];omega
theorem Zv {m:Me} {loads:List Ld} {sil:List Si} {T:Tb} (hn:m.nodes.length<=32) (hs:0<=m.slot/\m.slot<=109951162) (h:∀i,i<m.nodes.length->RN m.nodes.length T i (m.nodes.getD i default)) {i:Nat} (hi:i<m.nodes.length):
  RN m.nodes.length T i (WJ m loads sil i):=Vo (AbH (Aax hn hs h hi)) hn
theorem Kw {l:List Ar} {d:ByteArray} {slot:Int} (h:l.length<=4096):(Es l d slot).length<=4096:=by
 unfold Es
 split
 ·exact h
 ·split
  ·exact h
  ·rw[Aeh];show l.length+1<=4096;omega
theorem Xv {m:Me} {loads:List Ld} {sil:List Si} (h:m.arr.length<=4096):(Adt m loads sil).length<=4096:=by
 unfold Adt;rw[(Nx m loads sil).2]
 split
 ·unfold HA
  split
  ·exact h
  ·split
   ·exact h
   ·exact Kw h
 ·exact h
theorem RL {m:Me} (loads:List Ld) (sil:List Si) (hm:Cj m=0) (hs:m.slot<16384):Cj (GX m loads sil)=0:=by
 obtain⟨hh,hr⟩:=DU.1 hm;have hn:=hh.n2;have h1:=hh.s1;have hnode:∀i,i<m.nodes.length->RN m.nodes.length (m.nodes.getD 0 default).st.tb i (WJ m loads sil i):=fun i hi=>Zv hn (by omega) hr hi
 rw[Jb,DU];have hl:((List.range m.nodes.length).map (WJ m loads sil)).length=m.nodes.length:=by simp
 refine⟨⟨by rw[hl];exact hh.n1,by rw[hl];exact hn,by show 0<=m.slot+1;omega,by show m.slot+1<=16384;omega,hh.t1,hh.t2,Xv hh.a1⟩,fun i hi=>?_⟩;dsimp only at hi ⊢;rw[hl] at hi;have hn1:=hh.n1;rw[hl,E6 _ hi,E6 _ (show 0<m.nodes.length by omega)];have h0:=hnode 0 (by omega);have h2:=hnode i hi;exact⟨h2.st,h2.nd,h2.len.trans h0.len.symm,h2.sp.trans h0.sp.symm,h2.rk,h2.rn,h2.rp,h2.nb,h2.nn,h2.nx⟩
theorem JR {loads:List Ld} {sil:List Si} {m:Me} (hm:Cj m=0):∀k:Nat,m.slot+k<=16384->Cj (runN loads sil k m)=0/\(runN loads sil k m).slot=m.slot+k/\(runN loads sil k m).nodes.length=m.nodes.length/\(runN loads sil k m).turns=m.turns
 |0,_=>⟨hm,by show m.slot=m.slot+((0:Nat):Int);omega,rfl,rfl⟩
 |k+1,hk=>by
  obtain⟨h1,h2,h3,h4⟩:=JR (loads:=loads) (sil:=sil) hm k (by omega);have e:runN loads sil (k+1) m=GX (runN loads sil k m) loads sil:=rfl;rw[e];refine⟨RL loads sil h1 (by omega),?_,?_,?_⟩
  ·rw[Jb];show _+1=_;rw[h2];omega
  ·rw[Jb];simp[h3]
  ·rw[Jb];exact h4
theorem runN_add (loads:List Ld) (sil:List Si) (m:Me) (a:Nat):∀b,runN loads sil (a+b) m=runN loads sil b (runN loads sil a m)
 |0=>rfl
 |b+1=>by
  show GX (runN loads sil (a+b) m) loads sil=GX (runN loads sil b (runN loads sil a m)) loads sil;rw[runN_add loads sil m a b]
end Go.Proofs.M
end
section
namespace Go.Proofs.M
open Go Go.Sx Go.Proofs Go.Proofs.T Go.Proofs.Q
open Go.Proofs.P (Nb nbs Rk rkA rkErr checkNb hearM countM forgetM select')
open Go.Proofs.R (startM advM)
def fK (m:Me) (loads:List Ld):Nat->List Ar->Wk->List Ar×Wk
 |0=>ZT m.slot
 |1=>U5 m.slot loads
 |2=>X1 m.slot m.turns
 |4=>SO m.slot
 |5=>Xb m.slot
 |6=>HA m.slot
 |_=>Kp m.slot
def J1 (m:Me) (loads:List Ld) (sil:List Si) (k i:Nat) (A:List Ar×List Wk):List Ar×List Wk:=
 if k=3 then(A.1,Cf sil m.slot A.2 i) else((fK m loads k A.1 (A.2.getD i default)).1,A.2.set i (fK m loads k A.1 (A.2.getD i default)).2)
def Iz (m:Me) (loads:List Ld) (sil:List Si) (k:Nat) (A:List Ar×List Wk):Nat->List Ar×List Wk
 |0=>A
 |i+1=>J1 m loads sil k i (Iz m loads sil k A i)
def phK (m:Me) (loads:List Ld) (sil:List Si):Nat->List Ar×List Wk
 |0=>(m.arr,C6 m)
 |k+1=>Iz m loads sil k (phK m loads sil k) m.nodes.length
theorem Lp (F:List Ar->Wk->List Ar×Wk):∀(l:List Wk) (w:Wk) (arr:List Ar),Bs F arr (l++[w])=((F (Bs F arr l).1 w).1,(Bs F arr l).2++[(F (Bs F arr l).1 w).2])
 |[],_,_=>rfl
 |x :: l,w,arr=>by
  show Bs F arr (x :: (l++[w]))=_;unfold Bs;rw[Lp F l w]
  rfl
theorem NV (F:List Ar->Wk->List Ar×Wk):∀(l:List Wk) (arr:List Ar),(Bs F arr l).2.length=l.length
 |[],_=>rfl
 |x :: l,arr=>by
  unfold Bs;simp[NV F l]
section
variable {m:Me} {loads:List Ld} {sil:List Si} {A:List Ar×List Wk}
theorem Uv {k:Nat} (hk:k≠3):∀i,i<=A.2.length->Iz m loads sil k A i=((Bs (fK m loads k) A.1 (A.2.take i)).1,(Bs (fK m loads k) A.1 (A.2.take i)).2++A.2.drop i)
 |0,_=>rfl
 |i+1,hi=>by
  have ih:=Uv (k:=k) hk i (by omega);have hlt:i<A.2.length:=by omega
  have hl:(Bs (fK m loads k) A.1 (A.2.take i)).2.length=i:=by rw[NV,Aem];omega
  show J1 m loads sil k i (Iz m loads sil k A i)=_;rw[ih];unfold J1;rw[AeS hk];dsimp only;have e1:((Bs (fK m loads k) A.1 (A.2.take i)).2++A.2.drop i).getD i default=A.2.getD i default:=by
   rw[Aec,Aec,List.getElem?_append_right (by omega),hl,Nat.sub_self,List.getElem?_drop,Nat.add_zero]
  have e2:A.2.take (i+1)=A.2.take i++[A.2.getD i default]:=by
   rw[List.take_add_one,Aec,Ael hlt];rfl
  have e3:A.2.drop i=A.2.getD i default :: A.2.drop (i+1):=by
   rw[Aec,Ael hlt];exact List.drop_eq_getElem_cons hlt
  rw[e1,e2,Lp];refine congrArg (Prod.mk _) ?_
  conv=>lhs;rw[e3]
  rw[List.set_append_right _ _ (by omega),hl,Nat.sub_self,List.set_cons_zero,Aey];rfl
theorem AbC {k:Nat} (hk:k≠3):Iz m loads sil k A A.2.length=Bs (fK m loads k) A.1 A.2:=by
 rw[Uv hk _ (AeU _),List.take_length,List.drop_length,Aez]
theorem N4:∀i,Iz m loads sil 3 A i=(A.1,DQ sil m.slot A.2 i)
 |0=>rfl
 |i+1=>by
  show J1 m loads sil 3 i (Iz m loads sil 3 A i)=_;rw[N4 i];rfl
theorem PH (X:List Wk) (i:Nat) (slot:Int):(Cf sil slot X i).length=X.length:=by
 unfold Cf
 split
 ·rfl
 ·split
  ·unfold DA;split<;>simp
  ·rfl
theorem T5 {k i:Nat}:(J1 m loads sil k i A).2.length=A.2.length:=by
 unfold J1
 split
 ·exact PH _ _ _
 ·simp
theorem Uw {k:Nat}:∀i,(Iz m loads sil k A i).2.length=A.2.length
 |0=>rfl
 |i+1=>by
  show(J1 m loads sil k i (Iz m loads sil k A i)).2.length=_;rw[T5,Uw i]
theorem Iy:∀k,(phK m loads sil k).2.length=m.nodes.length
 |0=>by show(C6 m).length=_;simp[C6]
 |k+1=>by
  show(Iz m loads sil k (phK m loads sil k) m.nodes.length).2.length=_;rw[Uw,Iy k]
theorem FF {k:Nat} (hk:k≠3):phK m loads sil (k+1)=Bs (fK m loads k) (phK m loads sil k).1 (phK m loads sil k).2:=by
 show Iz m loads sil k (phK m loads sil k) m.nodes.length=_;have:=AbC (m:=m) (loads:=loads) (sil:=sil) (A:=phK m loads sil k) hk
 rwa [Iy] at this
end
theorem Ac2 (m:Me) (loads:List Ld) (sil:List Si):phK m loads sil 8=((Fg m loads sil).1,(Bs (Kp m.slot) [] (Fg m loads sil).2).2):=by
 have map1:∀(f:Wk->Wk) (arr:List Ar) (l:List Wk),Bs (fun a w=>(a,f w)) arr l=(arr,l.map f):=fun f arr l=>D9 f l arr
 have h1:phK m loads sil 1=(m.arr,(Bs (ZT m.slot) [] (C6 m)).2):=by
  rw[FF (by decide)];show Bs (fun a w=>(a,{w with nd:=Mw m.slot w.nd})) m.arr (C6 m)=(m.arr,(Bs (fun a w=>(a,{w with nd:=Mw m.slot w.nd})) [] (C6 m)).2);rw[map1,map1]
 have h2:phK m loads sil 2=(m.arr,(Bs (U5 m.slot loads) [] (Bs (ZT m.slot) [] (C6 m)).2).2):=by
  rw[FF (by decide),h1];generalize (Bs (ZT m.slot) [] (C6 m)).2=X;show Bs (fun a w=>(a,{w with nd:=Eh m.slot w.node loads w.nd})) m.arr X=(m.arr,(Bs (fun a w=>(a,{w with nd:=Eh m.slot w.node loads w.nd})) [] X).2);rw[map1,map1]
 have h3:phK m loads sil 3=(m.arr,FT m loads):=by
  rw[FF (by decide),h2];unfold FT;generalize (Bs (U5 m.slot loads) [] (Bs (ZT m.slot) [] (C6 m)).2).2=X;show Bs (fun a w=>(a,{w with nd:=(Fb m.slot m.turns w.nd).1,ac:=(Fb m.slot m.turns w.nd).2.1,bc:=w.bc||(Fb m.slot m.turns w.nd).2.2})) m.arr X=(m.arr,(Bs (fun a w=>(a,{w with nd:=(Fb m.slot m.turns w.nd).1,ac:=(Fb m.slot m.turns w.nd).2.1,bc:=w.bc||(Fb m.slot m.turns w.nd).2.2})) [] X).2);rw[map1,map1]
 have h4:phK m loads sil 4=(m.arr,Gh m loads sil):=by
  show Iz m loads sil 3 (phK m loads sil 3) m.nodes.length=_;rw[h3,N4];rfl
 have h5:phK m loads sil 5=(m.arr,(Bs (SO m.slot) [] (Gh m loads sil)).2):=by
  rw[FF (by decide),h4];generalize Gh m loads sil=X;show Bs (fun a w=>(a,DS m.slot w)) m.arr X=(m.arr,(Bs (fun a w=>(a,DS m.slot w)) [] X).2);rw[map1,map1]
 have h6:phK m loads sil 6=(m.arr,(Bs (Xb m.slot) [] (Bs (SO m.slot) [] (Gh m loads sil)).2).2):=by
  rw[FF (by decide),h5];generalize (Bs (SO m.slot) [] (Gh m loads sil)).2=X;show Bs (fun a w=>(a,Gj (EC m.slot w))) m.arr X=(m.arr,(Bs (fun a w=>(a,Gj (EC m.slot w))) [] X).2);rw[map1,map1]
 have h7:phK m loads sil 7=Fg m loads sil:=by
  rw[FF (by decide),h6];rfl
 rw[FF (by decide),h7];generalize Fg m loads sil=Y;show Bs (fun a w=>(a,{w with nd:=E9 m.slot w.nd})) Y.1 Y.2=(Y.1,(Bs (fun a w=>(a,{w with nd:=E9 m.slot w.nd})) [] Y.2).2);rw[map1,map1]
theorem TA (m:Me) (loads:List Ld) (sil:List Si):GX m loads sil=⟨(phK m loads sil 8).2.map (·.nd),m.slot+1,m.turns,(phK m loads sil 8).1⟩:=by
 rw[Ac2];rfl
end Go.Proofs.M
end
section
namespace Go.Proofs.M
open Go Go.Sx Go.RowKit Go.Proofs Go.Proofs.T Go.Proofs.Q
theorem S2 {id:Nat} {Q:Exit->St->Prop} {σ:St} (h:blockQ id Q .outgrown σ):Q .outgrown σ:=h
set_option maxRecDepth 4000
attribute [local irreducible] VR VC thenQ blockQ retL VX
def fnV (g:FuncId) (r0:RI):Value:=.func (.func g) #[pvo r0.blk 0] #[]
theorem TE {l:List (Nat×AV)} {FX:List (Nat×Blk)} {R:Nat->RI} {X:List Wk} {d:Nat} {x:AV} (hd:Av l d=none) {k:Key} {it:Sx.Item} (h:lsS l FX R X k=some it):((lsS l FX R X).upd (.s d) (some (.v x))) k=some it:=by
 by_cases e:Key.s d=k
 ·subst e;have h:(Av l d).map Sx.Item.v=some it:=h;rw[hd] at h;cases h
 ·rw[St.Au _ _ e];exact h
theorem Qi {E:Env Tryz.prog 116} {g:FuncId} {slot turns:Int} {R:Nat->RI} {nn:Nat} {loads:List Ld} {sil:List Si} {r0:RI} {l:List (Nat×AV)} {FY:List (Nat×Blk)} {i:Nat} {A B:List Ar×List Wk} (hO:O2 l FY) (hA:A.2.length<=64) (hB:B.2.length<=64)
  (h81:Av l 81=none) (h82:Av l 82=none) (h83:Av l 83=none) (h11:Av l 11=some (AD (.raw (fnV g r0)))) (h13:Av l 13=some (AD (.raw (pvo (R i).blk 0)))) (hen:Enters Tryz.prog g) (hC:VO g slot turns R nn loads sil r0 l FY i A B)
  {Q:Exit->St->Prop} (hno:∀σ,¬Q .outgrown σ) (h:Q .normal (lsS l (fxS slot turns R nn loads sil B.1 r0++FY) R B.2)) {p0 p1 p2:String} {a0 a1 af:Array Edge} {t1 t2 t3:TypeId}:
  VC E (.region 13 #[⟨some 81,.move (.tmp 11),t1,p0,a0,none⟩,⟨some 82,.move (.tmp 13),t2,p1,a1,none⟩,⟨some 83,.call ⟨.value (.tmp 81),#[.tmp 82],#[136]⟩,t3,p2,af,none⟩] false) Q (lsS l (fxS slot turns R nn loads sil A.1 r0++FY) R A.2):=by
 refine VC.mk fun a w hs=>?_
 have hno:¬LetsOut (fun e a' w'=>∃σ',Sat E σ' a' w'/\Q e σ'):=by
  rintro⟨a,w,σ',_,h⟩;exact hno σ' h
 refine wpIn_wide (n:=3).1 (wpIn_region_lit ?_);refine HT 2 (by simp only[List.take_succ_cons,List.take_zero];rfl) (by simp only[List.drop_succ_cons,List.drop_zero];rfl) ?_;refine J9 hno ?_ _ _ hs;have e11:ev (lsS l (fxS slot turns R nn loads sil A.1 r0++FY) R A.2) (.tmp 11)=some (AD (.raw (fnV g r0))):=by
  simp[ev,AS,h11]
 refine O4 (gk rfl) e11 rfl ?_;have e13:ev ((lsS l (fxS slot turns R nn loads sil A.1 r0++FY) R A.2).set 81 (AD (.raw (fnV g r0)))) (.tmp 13)=some (AD (.raw (pvo (R i).blk 0))):=by
  have e:((lsS l (fxS slot turns R nn loads sil A.1 r0++FY) R A.2).set 81 (AD (.raw (fnV g r0)))) (.s 13)=some (.v (AD (.raw (pvo (R i).blk 0)))):=by
   rw[St.set,St.Au _ _ (by decide)];show(Av l 13).map Sx.Item.v=_;rw[h13];rfl
  simp[ev,e]
 refine O4 (gk rfl) e13 rfl ?_;refine C7 ?_;rintro a2 w2 ⟨ρ,Im,hs2⟩;have hr81:a2.eval (.tmp 81)=fnV g r0:=(hs2.fr 81 (AD (.raw (fnV g r0))) rfl).1;have hr82:a2.eval (.tmp 82)=pvo (R i).blk 0:=(hs2.fr 82 (AD (.raw (pvo (R i).blk 0))) rfl).1;have hs3:AU E (lsS l (fxS slot turns R nn loads sil A.1 r0++FY) R A.2) a2 w2 ρ Im:=by
  refine hs2.sub (fun k it hk=>?_) (Og hO hA);have h1:=TE (x:=AD (.raw (fnV g r0))) h81 hk;by_cases e:Key.s 82=k
  ·subst e;have hk:(Av l 82).map Sx.Item.v=some it:=hk;rw[h82] at hk;cases hk
  ·rw[St.set,St.Au _ _ e];exact h1
 have hrun:(execOp a2.eval ⟨some 83,.call ⟨.value (.tmp 81),#[.tmp 82],#[136]⟩,t3,p2,af,none⟩).run Tryz.prog w2=.ok (.enter g #[pvo r0.blk 0,pvo (R i).blk 0]) w2:=by
  have h1:=hen #[pvo r0.blk 0,pvo (R i).blk 0] w2;simp only[execOp,resolve,hr81,hr82,fnV,Deferred.ofValue,Sem.run_bind,Sem.run_pure,Result.andThen_ok,List.map_toArray,List.map_cons,List.map_nil];simp[invoke,hr82];exact h1
 refine Qj hrun (hC hs3) ?_;rintro v w3 ⟨ht,ρ2,Im2,hs4⟩;have hs5:=hs4.put (d:=83) (by decide) (x:=.tup []) (v:=v) (by
  obtain⟨us,hv,hu⟩:=ht;subst hu;exact⟨[],hv,.nil⟩) (fun nm hn=>by cases hn)
 refine HT 0 (pre:=[]) (rest:=[]) rfl rfl ?_;refine J9 hno (C7 ?_) _ _ ⟨ρ2,Im2,hs5⟩;intro a6 w6 hs6;refine⟨_,?_,h⟩;obtain⟨ρ6,Im6,hs6⟩:=hs6;exact⟨ρ6,Im6,hs6.sub (fun k it hk=>TE h83 hk) (Og hO hB)⟩
end Go.Proofs.M
end
section
namespace Go.Proofs.M
open Go Go.Sx Go.Proofs Go.Proofs.T Go.Proofs.Q
structure WOK (i:Nat) (w:Wk):Prop where
 nd:w.node=i
 ck:AT w.nd.st=0
 nx:0<=w.nd.next/\w.nd.next<=65535
structure IK (n lo:Nat) (A:List Ar×List Wk):Prop where
 ar:A.1.length<=4096
 len:A.2.length=n
 ok:∀j,lo<=j->j<n->WOK j (A.2.getD j default)
theorem Q1 {slot:Int} {x:MN} {d:ByteArray} (h:AT x.st=0):AT (Hr slot x d).st=0:=by
 unfold Hr
 split
 ·exact h
 ·split
  ·rename_i h0;exact(TV h h0).1
  ·exact h
theorem Mj {slot i:Int}:∀(ls:List Ld) {x:MN},AT x.st=0->AT (Eh slot i ls x).st=0
 |[],_,h=>h
 |l :: ls,x,h=>by
  unfold Eh
  split
  ·exact Mj ls (Q1 h)
  ·exact Mj ls h
theorem Wx {s:Sta} (h:AT s=0):s.qu.Af.length<=100000:=by
 have h2:=(Bl h).2.1;have:=T7 h2;have h3:=this.bnd;have h4:=this.len;omega
theorem Sl (sil:List Si) (slot:Int) (X:List Wk) (i j:Nat):((Cf sil slot X i).getD j default).nd=(X.getD j default).nd/\((Cf sil slot X i).getD j default).node=(X.getD j default).node:=by
 have hset:∀(X:List Wk) (i:Nat) (A:Wk),A.nd=(X.getD i default).nd->A.node=(X.getD i default).node->∀j,((X.set i A).getD j default).nd=(X.getD j default).nd/\((X.set i A).getD j default).node=(X.getD j default).node:=by
  intro X i A h1 h2 j;by_cases hi:i<X.length
  ·rw[Aaj hi]
   split
   ·rename_i e;subst e;exact⟨h1,h2⟩
   ·exact⟨rfl,rfl⟩
  ·rw[List.set_eq_of_length_le (by omega)];exact⟨rfl,rfl⟩
 unfold Cf
 split
 ·exact⟨rfl,rfl⟩
 ·split
  ·rename_i q _;have g1:=hset X i {X.getD i default with rs:=X0 (Tg (X.getD q default).ac)} rfl rfl;unfold DA
   split
   ·have g2:=hset (X.set i {X.getD i default with rs:=X0 (Tg (X.getD q default).ac)}) q {X.getD q default with rs:={(X.getD q default).rs with AQ:=true}} (g1 q).1.symm (g1 q).2.symm j;exact⟨g2.1.trans (g1 j).1,g2.2.trans (g1 j).2⟩
   ·exact g1 j
  ·exact⟨rfl,rfl⟩
section
variable {m:Me} {loads:List Ld} {sil:List Si} {A:List Ar×List Wk} {k i:Nat}
theorem Adk (hs:0<=m.slot/\m.slot<=109951162) (hk:k<7) (hk3:k≠3) {arr:List Ar} {w:Wk} (ha:arr.length<=4096) (h:WOK i w):(fK m loads k arr w).1.length<=4096/\WOK i (fK m loads k arr w).2:=by
 have hc:k=0\/k=1\/k=2\/k=4\/k=5\/k=6:=by omega
 rcases hc with rfl|rfl|rfl|rfl|rfl|rfl
 ·refine⟨ha,h.nd,?_,?_⟩
  ·show AT (Mw m.slot w.nd).st=0;unfold Mw
   split
   ·exact(U6 h.ck hs).2.1
   ·exact h.ck
  ·show 0<=(Mw m.slot w.nd).next/\(Mw m.slot w.nd).next<=65535;unfold Mw
   split
   ·exact h.nx
   ·exact h.nx
 ·exact⟨ha,h.nd,Mj loads h.ck,HS loads h.nx⟩
 ·refine⟨ha,h.nd,?_,?_⟩
  ·show AT (Fb m.slot m.turns w.nd).1.st=0;unfold Fb
   split
   ·exact h.ck
   ·exact h.ck
  ·show 0<=(Fb m.slot m.turns w.nd).1.next/\(Fb m.slot m.turns w.nd).1.next<=65535;unfold Fb
   split
   ·exact h.nx
   ·exact h.nx
 ·refine⟨ha,?_⟩;show WOK i (DS m.slot w);unfold DS
  split
  ·exact h
  ·split
   ·refine⟨h.nd,?_,h.nx⟩;have:=Re w.rs h.ck hs;show AT (ES w.nd.st m.slot w.rs).1=0;rw[this.1];exact this.2.1
   ·exact h
 ·refine⟨ha,?_⟩;show WOK i (Gj (EC m.slot w));have h1:WOK i (EC m.slot w):=by
   unfold EC
   split
   ·exact⟨h.nd,h.ck,h.nx⟩
   ·exact h
  generalize EC m.slot w=v at h1 ⊢;unfold Gj
  split
  ·exact⟨h1.nd,h1.ck,h1.nx⟩
  ·exact h1
 ·show(HA m.slot arr w).1.length<=4096/\WOK i (HA m.slot arr w).2;unfold HA
  split
  ·exact⟨ha,h⟩
  ·split
   ·exact⟨ha,h.nd,Q1 h.ck,Of h.nx⟩
   ·exact⟨Kw ha,h⟩
theorem Abq {n:Nat} (hs:0<=m.slot/\m.slot<=109951162) (hk:k<7) (h:IK n 0 A) (hi:i<n):IK n 0 (J1 m loads sil k i A):=by
 by_cases h3:k=3
 ·subst h3;refine⟨h.ar,by rw[T5];exact h.len,fun j _ hj=>?_⟩;have e:=Sl sil m.slot A.2 i j;have h0:=h.ok j (AeV _) hj;show WOK j ((Cf sil m.slot A.2 i).getD j default);exact⟨e.2.trans h0.nd,by rw[e.1];exact h0.ck,by rw[e.1];exact h0.nx⟩
 ·have h1:=Adk (loads:=loads) hs hk h3 h.ar (h.ok i (AeV _) hi);have e:J1 m loads sil k i A=((fK m loads k A.1 (A.2.getD i default)).1,A.2.set i (fK m loads k A.1 (A.2.getD i default)).2):=AeS h3;rw[e];refine⟨h1.1,by show(A.2.set _ _).length=n;rw[Aes];exact h.len,fun j _ hj=>?_⟩;show WOK j ((A.2.set i (fK m loads k A.1 (A.2.getD i default)).2).getD j default);rw[Aaj (by rw[h.len];exact hi)]
  split
  ·rename_i e2;subst e2;exact h1.2
  ·exact h.ok j (AeV _) hj
theorem ZE {n:Nat} (hs:0<=m.slot/\m.slot<=109951162) (hk:k<7) (h:IK n 0 A):∀i,i<=n->IK n 0 (Iz m loads sil k A i)
 |0,_=>h
 |i+1,hi=>Abq hs hk (ZE hs hk h i (by omega)) (by omega)
theorem XX {n:Nat} (h:IK n 0 A):∀i,i<=n->IK n i (Iz m loads sil 7 A i)
 |0,_=>h
 |i+1,hi=>by
  have ih:=XX h i (by omega);generalize hB:Iz m loads sil 7 A i=B at ih;have e:Iz m loads sil 7 A (i+1)=(B.1,B.2.set i (Kp m.slot B.1 (B.2.getD i default)).2):=by
   show J1 m loads sil 7 i (Iz m loads sil 7 A i)=_;rw[hB];exact AeS (by decide)
  rw[e];refine⟨ih.ar,by show(B.2.set _ _).length=n;rw[Aes];exact ih.len,fun j h1 hj=>?_⟩;show WOK j ((B.2.set i _).getD j default);rw[Aaj (by rw[ih.len];omega),AeS (by omega)];exact ih.ok j (by omega) hj
theorem XT (hs:0<=m.slot/\m.slot<=109951162) (h:IK m.nodes.length 0 (m.arr,C6 m)):∀k,k<=7->IK m.nodes.length 0 (phK m loads sil k)
 |0,_=>h
 |k+1,hk=>ZE hs (by omega) (XT hs h k (by omega)) _ (AeU _)
def gsF (k:Nat):FuncId:=87+k
set_option maxHeartbeats 1000000 in
theorem Xp {R:Nat->RI} {r0:RI} {l:List (Nat×AV)} {FY:List (Nat×Blk)} (hO:O2 l FY) (hs:0<=m.slot/\m.slot<=109951162) (hn:m.nodes.length<=32) (hl:loads.length<=100000) (h0:IK m.nodes.length 0 (m.arr,C6 m)) (hk:k<8) (hi:i<m.nodes.length):
  VO (gsF k) m.slot m.turns R m.nodes.length loads sil r0 l FY i (Iz m loads sil k (phK m loads sil k) i) (Iz m loads sil k (phK m loads sil k) (i+1)):=by
 have hA:=XT (loads:=loads) (sil:=sil) hs h0 k (by omega);have hI:IK m.nodes.length (if k=7 then i else 0) (Iz m loads sil k (phK m loads sil k) i):=by
  by_cases h7:k=7
  ·subst h7;exact XX hA i (by omega)
  ·rw[AeS h7];exact ZE hs (by omega) hA i (by omega)
 show VO (gsF k) m.slot m.turns R m.nodes.length loads sil r0 l FY i _ (J1 m loads sil k i (Iz m loads sil k (phK m loads sil k) i));generalize Iz m loads sil k (phK m loads sil k) i=B at hI ⊢;have hlen:=hI.len;have hw:=hI.ok i (by split<;>omega) hi;have hB64:B.2.length<=64:=by omega
 have hiB:i<B.2.length:=by omega
 rw[<-hlen];have hc:k=0\/k=1\/k=2\/k=3\/k=4\/k=5\/k=6\/k=7:=by omega
 rcases hc with rfl|rfl|rfl|rfl|rfl|rfl|rfl|rfl
 ·intro E a w ρ Im hsat;exact Hw hO hB64 hiB (T1 m.slot m.turns (Dy R B.2.length) loads sil B.1 (B.2.getD i default)).toG hsat
 ·intro E a w ρ Im hsat;exact Hw hO hB64 hiB (R7 m.slot m.turns (Dy R B.2.length) loads sil B.1 (B.2.getD i default) hw.nx (by rw[hw.nd];omega) hl).toG hsat
 ·intro E a w ρ Im hsat;exact Hw hO hB64 hiB (T4 m.slot m.turns (Dy R B.2.length) loads sil B.1 (B.2.getD i default) hs).toG hsat
 ·intro E a w ρ Im hsat;exact OF hO hB64 hiB hsat
 ·intro E a w ρ Im hsat;exact Hw hO hB64 hiB (R9 m.slot m.turns (Dy R B.2.length) loads sil B.1 (B.2.getD i default)).toG hsat
 ·intro E a w ρ Im hsat;exact Hw hO hB64 hiB (R5 m.slot m.turns (Dy R B.2.length) loads sil B.1 (B.2.getD i default)).toG hsat
 ·intro E a w ρ Im hsat;exact Hw hO hB64 hiB (T0 m.slot m.turns (Dy R B.2.length) loads sil B.1 (B.2.getD i default) hw.nx hI.ar) hsat
 ·intro E a w ρ Im hsat;exact Hw hO hB64 hiB (Nz m.slot m.turns (Dy R B.2.length) loads sil B.1 (B.2.getD i default) (Wx hw.ck)).toG hsat
theorem SF {k:Nat} (hk:k<8):Enters Tryz.prog (gsF k):=by
 have hc:k=0\/k=1\/k=2\/k=3\/k=4\/k=5\/k=6\/k=7:=by omega
 rcases hc with rfl|rfl|rfl|rfl|rfl|rfl|rfl|rfl
 ·exact enters_of Tryz.func87 (by kernel_rfl) rfl
 ·exact enters_of Tryz.func88 (by kernel_rfl) rfl
 ·exact enters_of Tryz.func89 (by kernel_rfl) rfl
 ·exact enters_of Tryz.func90 (by kernel_rfl) rfl
 ·exact enters_of Tryz.func91 (by kernel_rfl) rfl
 ·exact enters_of Tryz.func92 (by kernel_rfl) rfl
 ·exact enters_of Tryz.func93 (by kernel_rfl) rfl
 ·exact enters_of Tryz.func94 (by kernel_rfl) rfl
end
end Go.Proofs.M
end
section
namespace Go.Proofs.M
open Go Go.Sx Go.RowKit Go.Proofs Go.Proofs.T Go.Proofs.Q
set_option maxRecDepth 4000
attribute [local irreducible] VR VC thenQ blockQ retL VX
def OW (A:List Ar×List Wk) (i:Nat):List MN:=(A.2.take i).map (·.nd)
theorem QS {A:List Ar×List Wk} {i:Nat} (h:i<A.2.length):OW A (i+1)=OW A i++[(A.2.getD i default).nd]:=by
 unfold OW;rw[List.take_add_one,Ae2,Aec,Ael h];rfl
theorem Zp {A:List Ar×List Wk} {i:Nat} (h:i<=A.2.length):(OW A i).length=i:=by simp[OW,h]
def fx6 (m:Me) (A:List Ar×List Wk) (i:Nat):List (Nat×Blk):=
 [(14,.box [.row 104 (OW A i).length,.d (.int .i64 (m.slot+1)),.d (.int .i64 m.turns),.row 102 A.1.length]),(102,.row 62 3 (rowOf Ar.enc A.1)),(104,.row 45 22 (rowOf MN.enc (OW A i))),(6,.box (Me.cs ⟨[],0,0,[]⟩))]
theorem D0 {m:Me} {A:List Ar×List Wk} {i:Nat}:EN (fx6 m A i):=by
 intro p hp;simp only[fx6,Aex,Aek,or_false] at hp;rcases hp with rfl|rfl|rfl|rfl<;>simp
theorem Kh {m:Me} {A:List Ar×List Wk} {i:Nat} {R:Nat->RI} {Y:List (List C)}:∀p∈fx6 m A i,∀n∈p.2.names,(Av (Dz (fx6 m A i) R Y) n).isSome=true:=by
 intro p hp;simp only[fx6,Aex,Aek,or_false] at hp;rcases hp with rfl|rfl|rfl|rfl<;>intro n hn
 ·simp only[Blk.names,List.flatMap_cons,List.flatMap_nil,C.names,List.nil_append,Aez,Aex,Aek,or_false,List.cons_append] at hn;rcases hn with rfl|rfl<;>rfl
 ·rw[AY] at hn;cases hn
 ·rw[AY] at hn;cases hn
 ·simp[Blk.names,Me.cs,C.names] at hn
theorem Q2 {m:Me} {A:List Ar×List Wk} {i n:Nat} {b:Blk} (h:Av (fx6 m A i) n=some b):
  (n=14/\b=.box [.row 104 (OW A i).length,.d (.int .i64 (m.slot+1)),.d (.int .i64 m.turns),.row 102 A.1.length])\/(n=102/\b=.row 62 3 (rowOf Ar.enc A.1))\/(n=104/\b=.row 45 22 (rowOf MN.enc (OW A i)))\/(n=6/\b=.box (Me.cs ⟨[],0,0,[]⟩)):=by
 have:=AF h;simp only[fx6,Aex,Aek,or_false,Prod.mk.injEq] at this;exact this
def oN (n:Nat):Nat:=if n=104 then 112 else n
theorem Zt {n:Nat} (h:n≠104):oN n=n:=AeS h
theorem Aby {E:Env Tryz.prog 116} {σ:St} {m:Me} {R:Nat->RI} {A:List Ar×List Wk} {i:Nat} (hA:A.2.length<=64) (hi:i<A.2.length)
  (s6:σ (.s 6)=some (.v (.c (.ptr 6 0)))) (s14:σ (.s 14)=some (.v (.c (.ptr 14 0)))) (s99:σ (.s 99)=some (.v (AD (Dy R m.nodes.length)))) (s100:σ (.s 100)=some (.v (AI m.nodes.length))) (s101:σ (.s 101)=some (.v (AI ((i+1:Nat):Int))))
  (h14:σ (.b 14)=some (.k (.box [.row 112 ((OW A i).length+1),.d (.int .i64 (m.slot+1)),.d (.int .i64 m.turns),.row 102 A.1.length]))) (h102:σ (.b 102)=some (.k (.row 62 3 (rowOf Ar.enc A.1))))
  (h112:σ (.b 112)=some (.k (.row 45 22 (rowOf MN.enc (OW A i)++[(A.2.getD i default).nd.enc.map C.d])))) (h6:σ (.b 6)=some (.k (.box (Me.cs ⟨[],0,0,[]⟩))))
  (hfam:∀j,j<A.2.length->σ (.b (8000+j))=some (.k (.box (A.2.getD j default).cs))) (hpin:∀j,j<A.2.length->σ (.b (20000+j))=some (.k (.pin (8000+j) (R j)))):
  Le E σ (lsS [(6,.c (.ptr 6 0)),(14,.c (.ptr 14 0)),(99,AD (Dy R m.nodes.length)),(100,AI m.nodes.length),(101,AI ((i+1:Nat):Int))] (fx6 m A (i+1)) R A.2):=by
 have hX:(A.2.map Wk.cs).length<=100:=by rw[Aet];omega
 have key:∀n,(Av (Dz (fx6 m A (i+1)) R (A.2.map Wk.cs)) n).isSome=true->n≠112:=fun n h=>by
  obtain⟨b,hb⟩:=Ae1.1 h;rcases BD hb with h|⟨j,hj,rfl,_⟩|⟨j,hj,rfl,_⟩
  ·rcases Q2 h with⟨rfl,_⟩|⟨rfl,_⟩|⟨rfl,_⟩|⟨rfl,_⟩<;>omega
  ·omega
  ·omega
 refine Us oN ⟨⟨_,s6,.c (.ptr rfl)⟩,⟨_,s14,.c (.ptr rfl)⟩,⟨_,s99,.c .d⟩,⟨_,s100,.c .d⟩,⟨_,s101,.c .d⟩,trivial⟩ (fun n x hx=>?_) (fun n1 n2 h1 h2 hne he=>?_) (Mf D0 hX ?_ Kh (F3 _))
 ·rcases BD hx with h|⟨j,hj,rfl,rfl⟩|⟨j,hj,rfl,rfl⟩
  ·rcases Q2 h with⟨rfl,rfl⟩|⟨rfl,rfl⟩|⟨rfl,rfl⟩|⟨rfl,rfl⟩
   ·refine⟨_,h14,.box (.cons (.row rfl ?_) (.cons .d (.cons .d (.cons (.row rfl rfl) .nil))))⟩;rw[QS hi,Aeh];rfl
   ·exact⟨_,h102,.Bc rfl Ai⟩
   ·refine⟨_,h112,.Bc ?_ Ai⟩;rw[QS hi];exact(A4 (enc:=MN.enc) (l:=OW A i) (m:=[(A.2.getD i default).nd])).symm
   ·exact⟨_,h6,.Bh rfl rfl⟩
  ·rw[Aet] at hj;rw[HC hj,Zt (by omega)];exact⟨_,hfam j hj,.Bh rfl rfl⟩
  ·rw[Aet] at hj;rw[Zt (by omega)];exact⟨_,hpin j hj,.pin (Zt (by omega))⟩
 ·have k1:=key n1 h1;have k2:=key n2 h2;unfold oN at he
  repeat' split at he
  all_goals omega
 ·intro p hp;simp only[Aex,Aek,or_false] at hp;rcases hp with rfl|rfl|rfl|rfl|rfl<;>refine⟨rfl,fun n hn=>?_⟩<;>simp only[AV.names,AV.Ce,C.names,Aex,Aek,or_false] at hn<;>subst hn<;>rfl
end Go.Proofs.M
end
