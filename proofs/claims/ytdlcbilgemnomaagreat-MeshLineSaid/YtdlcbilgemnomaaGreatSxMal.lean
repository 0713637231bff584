/-
  What functions of the program hand back, and plain laws on that. No condition.
-/
import Derived.Test.YtdlcbilgemnomaaGreatSxMai
import Derived.Test.YtdlcbilgemnomaaGreatSxMak
import Derived.Test.YtdlcbilgemnomaaGreatSxMaj
import Derived.Test.YtdlcbilgemnomaaGreatSxMab
import Derived.Test.YtdlcbilgemnomaaGreatSxMac
import Derived.Test.YtdlcbilgemnomaaGreatSxMae
set_option linter.unusedSimpArgs false
set_option linter.unusedVariables false
section
namespace Go.Proofs.M
open Go Go.Sx Go.RowKit Go.Proofs Go.Proofs.T Go.Proofs.Q
theorem TW {id:Nat} {Q:Exit->St->Prop} {σ:St} (h:blockQ id Q .outgrown σ):Q .outgrown σ:=h
set_option maxRecDepth 4000
attribute [local irreducible] VR VC thenQ blockQ retL VX
def fnV (g:FuncId) (r0:RI):Value:=.func (.func g) #[pvo r0.blk 0] #[]
theorem UD {l:List (Nat×AV)} {FX:List (Nat×Blk)} {R:Nat->RI} {X:List Wk} {d:Nat} {x:AV} (hd:As l d=none) {k:Key} {it:Sx.Item} (h:lsS l FX R X k=some it):((lsS l FX R X).upd (.s d) (some (.v x))) k=some it:=by
 by_cases e:Key.s d=k
 ·subst e;have h:(As l d).map Sx.Item.v=some it:=h;rw[hd] at h;cases h
 ·rw[St.Aq _ _ e];exact h
theorem QR {E:Env Tryz.prog 116} {g:FuncId} {slot turns:Int} {R:Nat->RI} {nn:Nat} {loads:List Ld} {sil:List Si} {r0:RI} {l:List (Nat×AV)} {FY:List (Nat×Blk)} {i:Nat} {A B:List Ar×List Wk} (hO:Pz l FY) (hA:A.2.length<=64) (hB:B.2.length<=64)
  (h81:As l 81=none) (h82:As l 82=none) (h83:As l 83=none) (h11:As l 11=some (AD (.raw (fnV g r0)))) (h13:As l 13=some (AD (.raw (pvo (R i).blk 0)))) (hen:Enters Tryz.prog g) (hC:WL g slot turns R nn loads sil r0 l FY i A B)
  {Q:Exit->St->Prop} (hno:∀σ,¬Q .outgrown σ) (h:Q .normal (lsS l (fxS slot turns R nn loads sil B.1 r0++FY) R B.2)) {p0 p1 p2:String} {a0 a1 af:Array Edge} {t1 t2 t3:TypeId}:
  VC E (.region 13 #[⟨some 81,.move (.tmp 11),t1,p0,a0,none⟩,⟨some 82,.move (.tmp 13),t2,p1,a1,none⟩,⟨some 83,.call ⟨.value (.tmp 81),#[.tmp 82],#[136]⟩,t3,p2,af,none⟩] false) Q (lsS l (fxS slot turns R nn loads sil A.1 r0++FY) R A.2):=by
 refine VC.mk fun a w hs=>?_
 have hno:¬LetsOut (fun e a' w'=>∃σ',Sat E σ' a' w'/\Q e σ'):=by
  rintro⟨a,w,σ',_,h⟩;exact hno σ' h
 refine wpIn_wide (n:=3).1 (wpIn_region_lit ?_);refine H0 2 (by simp only[List.take_succ_cons,List.take_zero];rfl) (by simp only[List.drop_succ_cons,List.drop_zero];rfl) ?_;refine Kq hno ?_ _ _ hs;have e11:ev (lsS l (fxS slot turns R nn loads sil A.1 r0++FY) R A.2) (.tmp 11)=some (AD (.raw (fnV g r0))):=by
  simp[ev,AS,h11]
 refine PC (gk rfl) e11 rfl ?_;have e13:ev ((lsS l (fxS slot turns R nn loads sil A.1 r0++FY) R A.2).set 81 (AD (.raw (fnV g r0)))) (.tmp 13)=some (AD (.raw (pvo (R i).blk 0))):=by
  have e:((lsS l (fxS slot turns R nn loads sil A.1 r0++FY) R A.2).set 81 (AD (.raw (fnV g r0)))) (.s 13)=some (.v (AD (.raw (pvo (R i).blk 0)))):=by
   rw[St.set,St.Aq _ _ (by decide)];show(As l 13).map Sx.Item.v=_;rw[h13];rfl
  simp[ev,e]
 refine PC (gk rfl) e13 rfl ?_;refine De ?_;rintro a2 w2 ⟨ρ,Im,hs2⟩;have hr81:a2.eval (.tmp 81)=fnV g r0:=(hs2.fr 81 (AD (.raw (fnV g r0))) rfl).1;have hr82:a2.eval (.tmp 82)=pvo (R i).blk 0:=(hs2.fr 82 (AD (.raw (pvo (R i).blk 0))) rfl).1;have hs3:AU E (lsS l (fxS slot turns R nn loads sil A.1 r0++FY) R A.2) a2 w2 ρ Im:=by
  refine hs2.sub (fun k it hk=>?_) (OO hO hA);have h1:=UD (x:=AD (.raw (fnV g r0))) h81 hk;by_cases e:Key.s 82=k
  ·subst e;have hk:(As l 82).map Sx.Item.v=some it:=hk;rw[h82] at hk;cases hk
  ·rw[St.set,St.Aq _ _ e];exact h1
 have hrun:(execOp a2.eval ⟨some 83,.call ⟨.value (.tmp 81),#[.tmp 82],#[136]⟩,t3,p2,af,none⟩).run Tryz.prog w2=.ok (.enter g #[pvo r0.blk 0,pvo (R i).blk 0]) w2:=by
  have h1:=hen #[pvo r0.blk 0,pvo (R i).blk 0] w2;simp only[execOp,resolve,hr81,hr82,fnV,Deferred.ofValue,Sem.run_bind,Sem.run_pure,Result.andThen_ok,List.map_toArray,List.map_cons,List.map_nil];simp[invoke,hr82];exact h1
 refine QS hrun (hC hs3) ?_;rintro v w3 ⟨ht,ρ2,Im2,hs4⟩;have hs5:=hs4.put (d:=83) (by decide) (x:=.tup []) (v:=v) (by
  obtain⟨us,hv,hu⟩:=ht;subst hu;exact⟨[],hv,.nil⟩) (fun nm hn=>by cases hn)
 refine H0 0 (pre:=[]) (rest:=[]) rfl rfl ?_;refine Kq hno (De ?_) _ _ ⟨ρ2,Im2,hs5⟩;intro a6 w6 hs6;refine⟨_,?_,h⟩;obtain⟨ρ6,Im6,hs6⟩:=hs6;exact⟨ρ6,Im6,hs6.sub (fun k it hk=>UD h83 hk) (OO hO hB)⟩
end Go.Proofs.M
end
section
namespace Go.Proofs.M
open Go Go.Sx Go.Proofs Go.Proofs.T Go.Proofs.Q
structure WOK (i:Nat) (w:Wk):Prop where
 nd:w.node=i
 ck:AQ w.nd.st=0
 nx:0<=w.nd.next/\w.nd.next<=65535
structure IK (n lo:Nat) (A:List Ar×List Wk):Prop where
 ar:A.1.length<=4096
 len:A.2.length=n
 ok:∀j,lo<=j->j<n->WOK j (A.2.getD j default)
theorem RR {slot:Int} {x:MN} {d:ByteArray} (h:AQ x.st=0):AQ (EY slot x d).st=0:=by
 unfold EY
 split
 ·exact h
 ·split
  ·rename_i h0;exact(P5 h h0).1
  ·exact h
theorem ML {slot i:Int}:∀(ls:List Ld) {x:MN},AQ x.st=0->AQ (CF slot i ls x).st=0
 |[],_,h=>h
 |l :: ls,x,h=>by
  unfold CF
  split
  ·exact ML ls (RR h)
  ·exact ML ls h
theorem Xv {s:Sta} (h:AQ s=0):s.qu.Af.length<=100000:=by
 have h2:=(Bf h).2.1;have:=U3 h2;have h3:=this.bnd;have h4:=this.len;omega
theorem Tk (sil:List Si) (slot:Int) (X:List Wk) (i j:Nat):((Ci sil slot X i).getD j default).nd=(X.getD j default).nd/\((Ci sil slot X i).getD j default).node=(X.getD j default).node:=by
 have hset:∀(X:List Wk) (i:Nat) (A:Wk),A.nd=(X.getD i default).nd->A.node=(X.getD i default).node->∀j,((X.set i A).getD j default).nd=(X.getD j default).nd/\((X.set i A).getD j default).node=(X.getD j default).node:=by
  intro X i A h1 h2 j;by_cases hi:i<X.length
  ·rw[Abx hi]
   split
   ·rename_i e;subst e;exact⟨h1,h2⟩
   ·exact⟨rfl,rfl⟩
  ·rw[List.set_eq_of_length_le (by omega)];exact⟨rfl,rfl⟩
 unfold Ci
 split
 ·exact⟨rfl,rfl⟩
 ·split
  ·rename_i q _;have g1:=hset X i {X.getD i default with rs:=YX (T5 (X.getD q default).ac)} rfl rfl;unfold DM
   split
   ·have g2:=hset (X.set i {X.getD i default with rs:=YX (T5 (X.getD q default).ac)}) q {X.getD q default with rs:={(X.getD q default).rs with AT:=true}} (g1 q).1.symm (g1 q).2.symm j;exact⟨g2.1.trans (g1 j).1,g2.2.trans (g1 j).2⟩
   ·exact g1 j
  ·exact⟨rfl,rfl⟩
section
variable {m:Me} {loads:List Ld} {sil:List Si} {A:List Ar×List Wk} {k i:Nat}
theorem Ae9 (hs:0<=m.slot/\m.slot<=109951162) (hk:k<7) (hk3:k≠3) {arr:List Ar} {w:Wk} (ha:arr.length<=4096) (h:WOK i w):(fK m loads k arr w).1.length<=4096/\WOK i (fK m loads k arr w).2:=by
 have hc:k=0\/k=1\/k=2\/k=4\/k=5\/k=6:=by omega
 rcases hc with rfl|rfl|rfl|rfl|rfl|rfl
 ·refine⟨ha,h.nd,?_,?_⟩
  ·show AQ (Jb m.slot w.nd).st=0;unfold Jb
   split
   ·exact(QH h.ck hs).2.1
   ·exact h.ck
  ·show 0<=(Jb m.slot w.nd).next/\(Jb m.slot w.nd).next<=65535;unfold Jb
   split
   ·exact h.nx
   ·exact h.nx
 ·exact⟨ha,h.nd,ML loads h.ck,HY loads h.nx⟩
 ·refine⟨ha,h.nd,?_,?_⟩
  ·show AQ (DF m.slot m.turns w.nd).1.st=0;unfold DF
   split
   ·exact h.ck
   ·exact h.ck
  ·show 0<=(DF m.slot m.turns w.nd).1.next/\(DF m.slot m.turns w.nd).1.next<=65535;unfold DF
   split
   ·exact h.nx
   ·exact h.nx
 ·refine⟨ha,?_⟩;show WOK i (BL m.slot w);unfold BL
  split
  ·exact h
  ·split
   ·refine⟨h.nd,?_,h.nx⟩;have:=JL w.rs h.ck hs;show AQ (EZ w.nd.st m.slot w.rs).1=0;rw[this.1];exact this.2.1
   ·exact h
 ·refine⟨ha,?_⟩;show WOK i (Eh (Cu m.slot w));have h1:WOK i (Cu m.slot w):=by
   unfold Cu
   split
   ·exact⟨h.nd,h.ck,h.nx⟩
   ·exact h
  generalize Cu m.slot w=v at h1 ⊢;unfold Eh
  split
  ·exact⟨h1.nd,h1.ck,h1.nx⟩
  ·exact h1
 ·show(F6 m.slot arr w).1.length<=4096/\WOK i (F6 m.slot arr w).2;unfold F6
  split
  ·exact⟨ha,h⟩
  ·split
   ·exact⟨ha,h.nd,RR h.ck,ON h.nx⟩
   ·exact⟨KQ ha,h⟩
theorem AcH {n:Nat} (hs:0<=m.slot/\m.slot<=109951162) (hk:k<7) (h:IK n 0 A) (hi:i<n):IK n 0 (Kg m loads sil k i A):=by
 by_cases h3:k=3
 ·subst h3;refine⟨h.ar,by rw[U1];exact h.len,fun j _ hj=>?_⟩;have e:=Tk sil m.slot A.2 i j;have h0:=h.ok j (Ag1 _) hj;show WOK j ((Ci sil m.slot A.2 i).getD j default);exact⟨e.2.trans h0.nd,by rw[e.1];exact h0.ck,by rw[e.1];exact h0.nx⟩
 ·have h1:=Ae9 (loads:=loads) hs hk h3 h.ar (h.ok i (Ag1 _) hi);have e:Kg m loads sil k i A=((fK m loads k A.1 (A.2.getD i default)).1,A.2.set i (fK m loads k A.1 (A.2.getD i default)).2):=AgY h3;rw[e];refine⟨h1.1,by show(A.2.set _ _).length=n;rw[Agy];exact h.len,fun j _ hj=>?_⟩;show WOK j ((A.2.set i (fK m loads k A.1 (A.2.getD i default)).2).getD j default);rw[Abx (by rw[h.len];exact hi)]
  split
  ·rename_i e2;subst e2;exact h1.2
  ·exact h.ok j (Ag1 _) hj
theorem AaH {n:Nat} (hs:0<=m.slot/\m.slot<=109951162) (hk:k<7) (h:IK n 0 A):∀i,i<=n->IK n 0 (IJ m loads sil k A i)
 |0,_=>h
 |i+1,hi=>AcH hs hk (AaH hs hk h i (by omega)) (by omega)
theorem YT {n:Nat} (h:IK n 0 A):∀i,i<=n->IK n i (IJ m loads sil 7 A i)
 |0,_=>h
 |i+1,hi=>by
  have ih:=YT h i (by omega);generalize hB:IJ m loads sil 7 A i=B at ih;have e:IJ m loads sil 7 A (i+1)=(B.1,B.2.set i (KG m.slot B.1 (B.2.getD i default)).2):=by
   show Kg m loads sil 7 i (IJ m loads sil 7 A i)=_;rw[hB];exact AgY (by decide)
  rw[e];refine⟨ih.ar,by show(B.2.set _ _).length=n;rw[Agy];exact ih.len,fun j h1 hj=>?_⟩;show WOK j ((B.2.set i _).getD j default);rw[Abx (by rw[ih.len];omega),AgY (by omega)];exact ih.ok j (by omega) hj
theorem YP (hs:0<=m.slot/\m.slot<=109951162) (h:IK m.nodes.length 0 (m.arr,Dc m)):∀k,k<=7->IK m.nodes.length 0 (phK m loads sil k)
 |0,_=>h
 |k+1,hk=>AaH hs (by omega) (YP hs h k (by omega)) _ (Ag0 _)
def gsF (k:Nat):FuncId:=87+k
set_option maxHeartbeats 1000000 in
theorem Yh {R:Nat->RI} {r0:RI} {l:List (Nat×AV)} {FY:List (Nat×Blk)} (hO:Pz l FY) (hs:0<=m.slot/\m.slot<=109951162) (hn:m.nodes.length<=32) (hl:loads.length<=100000) (h0:IK m.nodes.length 0 (m.arr,Dc m)) (hk:k<8) (hi:i<m.nodes.length):
  WL (gsF k) m.slot m.turns R m.nodes.length loads sil r0 l FY i (IJ m loads sil k (phK m loads sil k) i) (IJ m loads sil k (phK m loads sil k) (i+1)):=by
 have hA:=YP (loads:=loads) (sil:=sil) hs h0 k (by omega);have hI:IK m.nodes.length (if k=7 then i else 0) (IJ m loads sil k (phK m loads sil k) i):=by
  by_cases h7:k=7
  ·subst h7;exact YT hA i (by omega)
  ·rw[AgY h7];exact AaH hs (by omega) hA i (by omega)
 show WL (gsF k) m.slot m.turns R m.nodes.length loads sil r0 l FY i _ (Kg m loads sil k i (IJ m loads sil k (phK m loads sil k) i));generalize IJ m loads sil k (phK m loads sil k) i=B at hI ⊢;have hlen:=hI.len;have hw:=hI.ok i (by split<;>omega) hi;have hB64:B.2.length<=64:=by omega
 have hiB:i<B.2.length:=by omega
 rw[<-hlen];have hc:k=0\/k=1\/k=2\/k=3\/k=4\/k=5\/k=6\/k=7:=by omega
 rcases hc with rfl|rfl|rfl|rfl|rfl|rfl|rfl|rfl
 ·intro E a w ρ Im hsat;exact HA hO hB64 hiB (UZ m.slot m.turns (DK R B.2.length) loads sil B.1 (B.2.getD i default)).toG hsat
 ·intro E a w ρ Im hsat;exact HA hO hB64 hiB (S8 m.slot m.turns (DK R B.2.length) loads sil B.1 (B.2.getD i default) hw.nx (by rw[hw.nd];omega) hl).toG hsat
 ·intro E a w ρ Im hsat;exact HA hO hB64 hiB (U0 m.slot m.turns (DK R B.2.length) loads sil B.1 (B.2.getD i default) hs).toG hsat
 ·intro E a w ρ Im hsat;exact Pb hO hB64 hiB hsat
 ·intro E a w ρ Im hsat;exact HA hO hB64 hiB (Ta m.slot m.turns (DK R B.2.length) loads sil B.1 (B.2.getD i default)).toG hsat
 ·intro E a w ρ Im hsat;exact HA hO hB64 hiB (S6 m.slot m.turns (DK R B.2.length) loads sil B.1 (B.2.getD i default)).toG hsat
 ·intro E a w ρ Im hsat;exact HA hO hB64 hiB (UY m.slot m.turns (DK R B.2.length) loads sil B.1 (B.2.getD i default) hw.nx hI.ar) hsat
 ·intro E a w ρ Im hsat;exact HA hO hB64 hiB (N3 m.slot m.turns (DK R B.2.length) loads sil B.1 (B.2.getD i default) (Xv hw.ck)).toG hsat
theorem Tz {k:Nat} (hk:k<8):Enters Tryz.prog (gsF k):=by
 have hc:k=0\/k=1\/k=2\/k=3\/k=4\/k=5\/k=6\/k=7:=by omega
 rcases hc with rfl|rfl|rfl|rfl|rfl|rfl|rfl|rfl
 ·exact enters_of Tryz.func87 (by kernel_rfl) rfl
 ·exact enters_of Tryz.func88 (by kernel_rfl) rfl
 ·exact enters_of Tryz.func89 (by kernel_rfl) rfl
 ·exact enters_of Tryz.func90 (by kernel_rfl) rfl
 ·exact enters_of Tryz.func91 (by kernel_rfl) rfl
 ·exact enters_of Tryz.func92 (by kernel_rfl) rfl
 ·exact enters_of Tryz.func93 (by kernel_rfl) rfl
 ·exact enters_of Tryz.func94 (by kernel_rfl) rfl
end
end Go.Proofs.M
end
section
namespace Go.Proofs.M
open Go Go.Sx Go.RowKit Go.Proofs Go.Proofs.T Go.Proofs.Q
set_option maxRecDepth 4000
attribute [local irreducible] VR VC thenQ blockQ retL VX
def Pt (A:List Ar×List Wk) (i:Nat):List MN:=(A.2.take i).map (·.nd)
theorem RA {A:List Ar×List Wk} {i:Nat} (h:i<A.2.length):Pt A (i+1)=Pt A i++[(A.2.getD i default).nd]:=by
 unfold Pt;rw[List.take_add_one,Ag8,Agi,Agr h];rfl
theorem Aap {A:List Ar×List Wk} {i:Nat} (h:i<=A.2.length):(Pt A i).length=i:=by simp[Pt,h]
def fx6 (m:Me) (A:List Ar×List Wk) (i:Nat):List (Nat×Blk):=
 [(14,.box [.row 104 (Pt A i).length,.d (.int .i64 (m.slot+1)),.d (.int .i64 m.turns),.row 102 A.1.length]),(102,.row 62 3 (rowOf Ar.enc A.1)),(104,.row 45 22 (rowOf MN.enc (Pt A i))),(6,.box (Me.cs ⟨[],0,0,[]⟩))]
theorem D9 {m:Me} {A:List Ar×List Wk} {i:Nat}:ET (fx6 m A i):=by
 intro p hp;simp only[fx6,AgD,Agq,or_false] at hp;rcases hp with rfl|rfl|rfl|rfl<;>simp
theorem Kz {m:Me} {A:List Ar×List Wk} {i:Nat} {R:Nat->RI} {Y:List (List C)}:∀p∈fx6 m A i,∀n∈p.2.names,(As (DL (fx6 m A i) R Y) n).isSome=true:=by
 intro p hp;simp only[fx6,AgD,Agq,or_false] at hp;rcases hp with rfl|rfl|rfl|rfl<;>intro n hn
 ·simp only[Blk.names,List.flatMap_cons,List.flatMap_nil,C.names,List.nil_append,AgF,AgD,Agq,or_false,List.cons_append] at hn;rcases hn with rfl|rfl<;>rfl
 ·rw[AY] at hn;cases hn
 ·rw[AY] at hn;cases hn
 ·simp[Blk.names,Me.cs,C.names] at hn
theorem RS {m:Me} {A:List Ar×List Wk} {i n:Nat} {b:Blk} (h:As (fx6 m A i) n=some b):
  (n=14/\b=.box [.row 104 (Pt A i).length,.d (.int .i64 (m.slot+1)),.d (.int .i64 m.turns),.row 102 A.1.length])\/(n=102/\b=.row 62 3 (rowOf Ar.enc A.1))\/(n=104/\b=.row 45 22 (rowOf MN.enc (Pt A i)))\/(n=6/\b=.box (Me.cs ⟨[],0,0,[]⟩)):=by
 have:=AE h;simp only[fx6,AgD,Agq,or_false,Prod.mk.injEq] at this;exact this
def oN (n:Nat):Nat:=if n=104 then 112 else n
theorem Aau {n:Nat} (h:n≠104):oN n=n:=AgY h
theorem Adf {E:Env Tryz.prog 116} {σ:St} {m:Me} {R:Nat->RI} {A:List Ar×List Wk} {i:Nat} (hA:A.2.length<=64) (hi:i<A.2.length)
  (s6:σ (.s 6)=some (.v (.c (.ptr 6 0)))) (s14:σ (.s 14)=some (.v (.c (.ptr 14 0)))) (s99:σ (.s 99)=some (.v (AD (DK R m.nodes.length)))) (s100:σ (.s 100)=some (.v (AI m.nodes.length))) (s101:σ (.s 101)=some (.v (AI ((i+1:Nat):Int))))
  (h14:σ (.b 14)=some (.k (.box [.row 112 ((Pt A i).length+1),.d (.int .i64 (m.slot+1)),.d (.int .i64 m.turns),.row 102 A.1.length]))) (h102:σ (.b 102)=some (.k (.row 62 3 (rowOf Ar.enc A.1))))
  (h112:σ (.b 112)=some (.k (.row 45 22 (rowOf MN.enc (Pt A i)++[(A.2.getD i default).nd.enc.map C.d])))) (h6:σ (.b 6)=some (.k (.box (Me.cs ⟨[],0,0,[]⟩))))
  (hfam:∀j,j<A.2.length->σ (.b (8000+j))=some (.k (.box (A.2.getD j default).cs))) (hpin:∀j,j<A.2.length->σ (.b (20000+j))=some (.k (.pin (8000+j) (R j)))):
  Le E σ (lsS [(6,.c (.ptr 6 0)),(14,.c (.ptr 14 0)),(99,AD (DK R m.nodes.length)),(100,AI m.nodes.length),(101,AI ((i+1:Nat):Int))] (fx6 m A (i+1)) R A.2):=by
 have hX:(A.2.map Wk.cs).length<=100:=by rw[Agz];omega
 have key:∀n,(As (DL (fx6 m A (i+1)) R (A.2.map Wk.cs)) n).isSome=true->n≠112:=fun n h=>by
  obtain⟨b,hb⟩:=Ag7.1 h;rcases BE hb with h|⟨j,hj,rfl,_⟩|⟨j,hj,rfl,_⟩
  ·rcases RS h with⟨rfl,_⟩|⟨rfl,_⟩|⟨rfl,_⟩|⟨rfl,_⟩<;>omega
  ·omega
  ·omega
 refine Vm oN ⟨⟨_,s6,.c (.ptr rfl)⟩,⟨_,s14,.c (.ptr rfl)⟩,⟨_,s99,.c .d⟩,⟨_,s100,.c .d⟩,⟨_,s101,.c .d⟩,trivial⟩ (fun n x hx=>?_) (fun n1 n2 h1 h2 hne he=>?_) (MH D9 hX ?_ Kz (F8 _))
 ·rcases BE hx with h|⟨j,hj,rfl,rfl⟩|⟨j,hj,rfl,rfl⟩
  ·rcases RS h with⟨rfl,rfl⟩|⟨rfl,rfl⟩|⟨rfl,rfl⟩|⟨rfl,rfl⟩
   ·refine⟨_,h14,.box (.cons (.row rfl ?_) (.cons .d (.cons .d (.cons (.row rfl rfl) .nil))))⟩;rw[RA hi,Agn];rfl
   ·exact⟨_,h102,.Bc rfl Ag⟩
   ·refine⟨_,h112,.Bc ?_ Ag⟩;rw[RA hi];exact(AZ (enc:=MN.enc) (l:=Pt A i) (m:=[(A.2.getD i default).nd])).symm
   ·exact⟨_,h6,.Bs rfl rfl⟩
  ·rw[Agz] at hj;rw[HG hj,Aau (by omega)];exact⟨_,hfam j hj,.Bs rfl rfl⟩
  ·rw[Agz] at hj;rw[Aau (by omega)];exact⟨_,hpin j hj,.pin (Aau (by omega))⟩
 ·have k1:=key n1 h1;have k2:=key n2 h2;unfold oN at he
  repeat' split at he
  all_goals omega
 ·intro p hp;simp only[AgD,Agq,or_false] at hp;rcases hp with rfl|rfl|rfl|rfl|rfl<;>refine⟨rfl,fun n hn=>?_⟩<;>simp only[AV.names,AV.Ch,C.names,AgD,Agq,or_false] at hn<;>subst hn<;>rfl
theorem Ad9 {m:Me} {l:List (Nat×AV)} (h:∀p∈l,p.2.shallow=true/\∀n∈p.2.names,n=100\/n=3\/n=6):Pz l [(3,.box m.cs),(6,.box (Me.cs ⟨[],0,0,[]⟩))]:=by
 refine⟨fun p hp=>?_,fun p hp=>?_,fun p hp=>⟨(h p hp).1,fun n hn=>?_⟩⟩
 ·simp only[AgD,Agq,or_false] at hp;rcases hp with rfl|rfl<;>simp
 ·simp only[AgD,Agq,or_false] at hp;rcases hp with rfl|rfl<;>simp[Blk.names,Me.cs,C.names]
 ·have:=(h p hp).2 n hn;simpa using this
theorem AeQ {E:Env Tryz.prog 116} {σ:St} {m:Me} {loads:List Ld} {sil:List Si} {R:Nat->RI} {r0:RI} (hS:∀b,¬E.S0 b) (hn:m.nodes.length<=32)
  (s3:σ (.s 3)=some (.v (.c (.ptr 3 0)))) (s6:σ (.s 6)=some (.v (.c (.ptr 6 0)))) (s7:σ (.s 7)=some (.v (.c (.ptr 100 0))))
  (h100:σ (.b 100)=some (.k (.box [.d (.int .i64 m.slot),.d (.int .i64 m.turns),.row 103 (FK R m.nodes.length).length,.d (lds loads),.d (sis sil),.row 102 m.arr.length]))) (h102:σ (.b 102)=some (.k (.row 62 3 (rowOf Ar.enc m.arr))))
  (h103:σ (.b 103)=some (.k (.row 136 1 (rowOf LX (FK R m.nodes.length))))) (h3:σ (.b 3)=some (.k (.box m.cs))) (h6:σ (.b 6)=some (.k (.box (Me.cs ⟨[],0,0,[]⟩)))) (hpn:σ (.b 9100)=some (.k (.pin 100 r0)))
  (hfam:∀j,j<m.nodes.length->σ (.b (8000+j))=some (.k (.box ((Pw m m.nodes.length).getD j default).cs))) (hpin:∀j,j<m.nodes.length->σ (.b (20000+j))=some (.k (.pin (8000+j) (R j)))):
  Le E σ (lsS [(3,.c (.ptr 3 0)),(6,.c (.ptr 6 0)),(7,.c (.ptr 100 0))] (fxS m.slot m.turns R m.nodes.length loads sil m.arr r0++[(3,.box m.cs),(6,.box (Me.cs ⟨[],0,0,[]⟩))]) R (Dc m)):=by
 have hO:Pz [(3,.c (.ptr 3 0)),(6,.c (.ptr 6 0)),(7,.c (.ptr 100 0))] [(3,.box m.cs),(6,.box (Me.cs ⟨[],0,0,[]⟩))]:=Ad9 (m:=m) (by
  intro p hp;simp only[AgD,Agq,or_false] at hp;rcases hp with rfl|rfl|rfl<;>refine⟨rfl,fun n hn=>?_⟩<;>simp only[AV.names,AV.Ch,C.names,AgD,Agq,or_false] at hn<;>omega)
 have hlen:(Dc m).length=m.nodes.length:=by simp[Dc]
 rw[show(FK R m.nodes.length).length=m.nodes.length by simp[FK]] at h100;have key:∀n,(As (DL (fxS m.slot m.turns R m.nodes.length loads sil m.arr r0++[(3,.box m.cs),(6,.box (Me.cs ⟨[],0,0,[]⟩))]) R ((Dc m).map Wk.cs)) n).isSome=true->n≠103:=fun n h=>by
  obtain⟨b,hb⟩:=Ag7.1 h;rcases BE hb with h|⟨j,hj,rfl,_⟩|⟨j,hj,rfl,_⟩
  ·rcases E8 hO h with⟨rfl,_⟩|⟨rfl,_⟩|⟨rfl,_⟩|⟨_,h⟩<;>omega
  ·omega
  ·omega
 refine Vl (fun n=>n) [103] hS ⟨⟨_,s3,.c (.ptr rfl)⟩,⟨_,s6,.c (.ptr rfl)⟩,⟨_,s7,.c (.ptr rfl)⟩,trivial⟩ (fun n x hx=>?_) (fun n1 n2 _ _ h=>h) (fun n h q hq=>by rw[Agx] at hq;rw[hq];exact key n h) ?_
 ·rcases BE hx with h|⟨j,hj,rfl,rfl⟩|⟨j,hj,rfl,rfl⟩
  ·rcases E8 hO h with⟨rfl,rfl⟩|⟨rfl,rfl⟩|⟨rfl,rfl⟩|⟨h,_⟩
   ·refine⟨_,h100,.box (.cons .d (.cons .d (.cons (.frz (n:=m.nodes.length) (Agx.2 rfl) h103 (by simp[FK,rowOf]) (fun i x hi hx j hj=>?_)) (.cons .d (.cons .d (.cons (.row rfl rfl) .nil))))))⟩;have hj:j=0:=by omega
    subst hj;have e:x=[.d (.raw (pvo (R i).blk 0))]:=by
     simp[rowOf,FK,LX,hi] at hx;exact hx.symm
    rw[e];rfl
   ·exact⟨_,h102,.Bc rfl Ag⟩
   ·exact⟨_,hpn,.pin rfl⟩
   ·have hm:=AE h;simp only[AgD,Agq,or_false,Prod.mk.injEq] at hm;rcases hm with⟨rfl,rfl⟩|⟨rfl,rfl⟩
    ·exact⟨_,h3,.Bs rfl rfl⟩
    ·exact⟨_,h6,.Bs rfl rfl⟩
  ·rw[Agz,hlen] at hj;rw[HG (by rw[hlen];exact hj)];exact⟨_,hfam j hj,.Bs rfl rfl⟩
  ·rw[Agz,hlen] at hj;exact⟨_,hpin j hj,.pin rfl⟩
 ·exact Qx hO (by omega)
def fnD (r0:RI):D:=.rd 8 1 fun k _=>.raw (fnV (gsF k) r0)
theorem JG {E:Env Tryz.prog 116} {σ:St} {slot turns:Int} {R:Nat->RI} {nn:Nat} {loads:List Ld} {sil:List Si} {arr:List Ar} {r0:RI} {l l':List (Nat×AV)} {FY:List (Nat×Blk)} {X:List Wk} (hO:Pz l' FY) (hX:X.length<=64)
  (hb:∀n,σ (.b n)=lsS l (fxS slot turns R nn loads sil arr r0++FY) R X (.b n)) (hs:∀p∈l',σ (.s p.1)=some (.v p.2)):Le E σ (lsS l' (fxS slot turns R nn loads sil arr r0++FY) R X):=by
 rintro a w ⟨ρ,Im,h⟩;refine⟨ρ,Im,h.sub (fun k it hk=>?_) (OO hO hX)⟩;cases k with
 |s t=>
  have hk:(As l' t).map Sx.Item.v=some it:=hk;rw[Ag4] at hk;obtain⟨y,hy,rfl⟩:=hk;exact hs _ (AE hy)
 |b n=>rw[hb];exact hk
theorem AeP {E:Env Tryz.prog 116} {σ:St} {m:Me} {loads:List Ld} {sil:List Si} {R:Nat->RI} {r0:RI} {k:Nat} {A:List Ar×List Wk} (hS:∀b,¬E.S0 b) (hn:m.nodes.length<=32) (hO:Pz [(3,.c (.ptr 3 0)),(6,.c (.ptr 6 0)),(7,.c (.ptr 100 0)),(66,AD (fnD r0)),(67,AI 8),(68,AI (k:Int))] [(3,.box m.cs),(6,.box (Me.cs ⟨[],0,0,[]⟩))]) (hlen:A.2.length=m.nodes.length)
  (s3:σ (.s 3)=some (.v (.c (.ptr 3 0)))) (s6:σ (.s 6)=some (.v (.c (.ptr 6 0)))) (s7:σ (.s 7)=some (.v (.c (.ptr 100 0)))) (s66:σ (.s 66)=some (.v (.c (.row 66 8)))) (s67:σ (.s 67)=some (.v (AI 8))) (s68:σ (.s 68)=some (.v (AI (k:Int))))
  (h66:σ (.b 66)=some (.k (.row 147 1 [[M4 (gsF 0) r0 0],[M4 (gsF 1) r0 0],[M4 (gsF 2) r0 0],[M4 (gsF 3) r0 0],[M4 (gsF 4) r0 0],[M4 (gsF 5) r0 0],[M4 (gsF 6) r0 0],[M4 (gsF 7) r0 0]])))
  (hblk:∀n b,n≠66->As (DL (fxS m.slot m.turns R m.nodes.length loads sil A.1 r0++[(3,.box m.cs),(6,.box (Me.cs ⟨[],0,0,[]⟩))]) R (A.2.map Wk.cs)) n=some b->σ (.b n)=some (.k b)):
  Le E σ (lsS [(3,.c (.ptr 3 0)),(6,.c (.ptr 6 0)),(7,.c (.ptr 100 0)),(66,AD (fnD r0)),(67,AI 8),(68,AI (k:Int))] (fxS m.slot m.turns R m.nodes.length loads sil A.1 r0++[(3,.box m.cs),(6,.box (Me.cs ⟨[],0,0,[]⟩))]) R A.2):=by
 have key:∀n,(As (DL (fxS m.slot m.turns R m.nodes.length loads sil A.1 r0++[(3,.box m.cs),(6,.box (Me.cs ⟨[],0,0,[]⟩))]) R (A.2.map Wk.cs)) n).isSome=true->n≠66:=fun n h=>by
  obtain⟨b,hb⟩:=Ag7.1 h;rcases BE hb with h|⟨j,hj,rfl,_⟩|⟨j,hj,rfl,_⟩
  ·rcases E8 hO h with⟨rfl,_⟩|⟨rfl,_⟩|⟨rfl,_⟩|⟨h,_⟩
   ·omega
   ·omega
   ·omega
   ·have hm:=AE h;simp only[AgD,Agq,or_false,Prod.mk.injEq] at hm;rcases hm with⟨rfl,rfl⟩|⟨rfl,rfl⟩<;>omega
  ·omega
  ·omega
 refine Vl (fun n=>n) [66] hS ⟨⟨_,s3,.c (.ptr rfl)⟩,⟨_,s6,.c (.ptr rfl)⟩,⟨_,s7,.c (.ptr rfl)⟩,⟨_,s66,.c (.frz (n:=8) (Agx.2 rfl) h66 (Ag0 _) (fun i x hi hx j hj=>?_))⟩,⟨_,s67,.c .d⟩,⟨_,s68,.c .d⟩,trivial⟩ (fun n x hx=>?_) (fun n1 n2 _ _ h=>h) (fun n h q hq=>by rw[Agx] at hq;rw[hq];exact key n h) (Qx hO (by omega))
 ·have hj:j=0:=by omega
  subst hj;have hc:i=0\/i=1\/i=2\/i=3\/i=4\/i=5\/i=6\/i=7:=by omega
  rcases hc with rfl|rfl|rfl|rfl|rfl|rfl|rfl|rfl<;>(injection hx with hx;subst hx;rfl)
 ·refine⟨_,hblk n x (key n (by rw[hx];rfl)) hx,?_⟩;rcases BE hx with h|⟨j,hj,rfl,rfl⟩|⟨j,hj,rfl,rfl⟩
  ·rcases E8 hO h with⟨rfl,rfl⟩|⟨rfl,rfl⟩|⟨rfl,rfl⟩|⟨h,_⟩
   ·exact .box (CWs.Ep _)
   ·exact .Bc rfl Ag
   ·exact .pin rfl
   ·have hm:=AE h;simp only[AgD,Agq,or_false,Prod.mk.injEq] at hm;rcases hm with⟨rfl,rfl⟩|⟨rfl,rfl⟩
    ·exact .Bs rfl rfl
    ·exact .Bs rfl rfl
  ·exact .box (CWs.Ep _)
  ·exact .pin rfl
set_option maxHeartbeats 4000000 in
theorem Ux (m:Me) (loads:List Ld) (sil:List Si) (hal:m.arr.length<=100000) (hn32:m.nodes.length<=32) (hsl:0<=m.slot/\m.slot<=109951162) (hll:loads.length<=100000) (hik:IK m.nodes.length 0 (m.arr,Dc m)):FnS Tryz.prog 55 [meA m,AD (lds loads),AD (sis sil)] [] (meA (Cz m loads sil)) []:=by
 refine fb Tryz.func55 (by kernel_rfl) rfl Tryz.ntmps55 Tryz.results55 rfl rfl rfl rfl fun E hS=>?_
 repeat'(first|refine sR ?_|refine Ak rfl (by exact tt0) ?_|(refine gC ?_;first|refine Aa (Yf m.arr hal) (gk rfl) rfl rfl rfl (by(simp only[A0,wfL,AH,wfs,Ae,Ad];rfl)) rfl (by exact Bx) rfl ?_)|refine Ap (by kernel_rfl) ?_|(show VC _ (.seq (.region _ _ _) _) _ _;refine BC ?_)|fail)
 refine VC.le (MP (bx:=27) (nm:=103) (T:=136) (sz:=1) (j:=2) rfl rfl rfl) ?_;refine VC.le (σ':=AS [(3,.c (.ptr 3 0)),(6,.c (.ptr 6 0)),(7,.c (.ptr 100 0))] [(100,.box [.d (.int .i64 m.slot),.d (.int .i64 m.turns),.row 103 0,.d (lds loads),.d (sis sil),.row 102 m.arr.length]),(102,.row 62 3 (rowOf Ar.enc m.arr)),(103,.row 136 1 (rowOf LX [])),(3,.box m.cs),(6,.box (Me.cs ⟨[],0,0,[]⟩))]) ?_ ?_
 ·refine Am (fun n=>if n=100 then 27 else if n=102 then 25007 else n) ?_ ?_ rfl (by(simp only[wfL,wfs,Ae,Ad];rfl))
  all_goals repeat'(first|exact tt0|refine⟨⟨_,rfl,?_⟩,?_⟩|exact .c (.ptr rfl)|exact .Bs rfl rfl|exact .Bc rfl Ag|refine .box ?_|exact .nil|refine .cons ?_ ?_|exact .d|exact .row rfl rfl|fail)
 repeat'(first|refine sC ?_|refine Ak rfl (by exact tt0) ?_|fail)
 refine AK (ι:=Nat×(Nat->RI)) (fun p=>lsS [(3,.c (.ptr 3 0)),(6,.c (.ptr 6 0)),(7,.c (.ptr 100 0)),(29,AD (mns m.nodes)),(30,AI m.nodes.length),(31,AI (p.1:Int))] (fx0 m loads sil p.2 p.1) p.2 (Pw m p.1)) (fun p=>p.1<=m.nodes.length) (fun p=>m.nodes.length-p.1) (0,fun _=>⟨0,0,false⟩) (Ag1 _) ?_ ?_
 ·refine F1 GQ (Ag1 _) ⟨⟨_,rfl,.c (.ptr rfl)⟩,⟨_,rfl,.c (.ptr rfl)⟩,⟨_,rfl,.c (.ptr rfl)⟩,⟨_,rfl,.c .d⟩,⟨_,rfl,.c .d⟩,⟨_,rfl,.c .d⟩,trivial⟩ ⟨⟨_,rfl,.box (CWs.Ep _)⟩,⟨_,rfl,.row (WV.Ep _)⟩,⟨_,rfl,.row (WV.Ep _)⟩,⟨_,rfl,.box (CWs.Ep _)⟩,⟨_,rfl,.box (CWs.Ep _)⟩,trivial⟩ (fun j hj=>absurd hj (AgW _)) (fun j hj=>absurd hj (AgW _)) ?_ OP;intro p hp;simp only[AgD,Agq,or_false] at hp;rcases hp with rfl|rfl|rfl|rfl|rfl|rfl<;>refine⟨rfl,fun n hn=>?_⟩<;>simp only[AV.names,AV.Ch,C.names,AgD,Agq,or_false] at hn<;>subst hn<;>rfl
 ·rintro⟨k,R⟩ hk;have hk:k<=m.nodes.length:=hk;dsimp only;have hpl:(FK R k).length=k:=by simp[FK]
  have hgk:(Pw m k).length=k:=Ky;have hgl:(Pw m k).length<=100:=by omega
  by_cases hc:k<m.nodes.length
  ·have hd:decide ((k:Int)<(m.nodes.length:Int))=true:=Agj (by omega);rw[Ds hgl]
   repeat'(first|refine sA ?_|refine Ak rfl (by exact tt0) ?_|(refine gI ?_;first|refine Au (gk rfl) rfl rfl rfl rfl rfl (by omega) rfl ?_)|(refine gA ?_;first|refine Be (gk rfl) rfl rfl rfl (by exact Al.symm) (by exact .row rfl (by rfl)) rfl rfl rfl (by(try dsimp only);omega) rfl rfl ?_)|(refine gN ?_;first|refine Aj (gk rfl) rfl rfl ?_)|refine Ap (by kernel_rfl) ?_|refine sq 6 rfl ?_|((fail_if_success (show VC _ (.region 6 _ _) _ _));first|refine Bg ?_|refine Cp ?_)|(refine gD ?_;first|refine Ai rfl ?_|refine At rfl (by assumption) ?_)|refine B0 ?_|fail)
   refine YF (nm:=44) (pn:=9044) ?_ ?_ fun r=>?_
   ·intro h;have h:(some _:Option Sx.Item)=none:=h;cases h
   ·rfl
   repeat'(first|refine sR ?_|refine Ak rfl (by first|exact tt0|omega) ?_|fail)
   refine⟨(k+1,La R k r),?_,?_,?_⟩
   ·show k+1<=_;omega
   ·show m.nodes.length-(k+1)<m.nodes.length-k;omega
   refine Le.tr (XL (q:=46) (T:=136) (xs:=rowOf LX (FK R k)) (nm:=44) (off:=0) (pn:=9044) (r:=r) ?_ ?_) (Adg (by omega) ?_ ?_ ?_ ?_ ?_ ?_ ?_ ?_ ?_ ?_ ?_ ?_ ?_ ?_ ?_)
   all_goals first|rfl|skip
   ·intro j hj;simp(disch:=omega) only [St.Ca,Mo,Gd,Eo];rw[<-Ds hgl];exact Kn GQ (X:=Pw m k) (j:=j) (by omega) (by omega)
   ·intro j hj;simp(disch:=omega) only [St.Ca,Mo,Gd,Eo];rw[<-Ds hgl];exact LI GQ (X:=Pw m k) (j:=j) (by omega) (by omega)
  ·have hd:decide ((k:Int)<(m.nodes.length:Int))=false:=Agk (by omega);rw[Ds hgl]
   repeat'(first|refine sA ?_|refine Ak rfl (by exact tt0) ?_|refine sq 7 rfl ?_|((fail_if_success (show VC _ (.region 7 _ _) _ _));refine Bg ?_)|(refine gD ?_;first|refine Ah rfl ?_|refine At rfl (by assumption) ?_)|fail)
   have hkn:k=m.nodes.length:=by omega
   subst hkn;refine YF (nm:=100) (pn:=9100) ?_ ?_ fun r0=>?_
   ·intro h;have h:(some _:Option Sx.Item)=none:=h;cases h
   ·rfl
   refine VC.le (σ':=lsS [(3,.c (.ptr 3 0)),(6,.c (.ptr 6 0)),(7,.c (.ptr 100 0))] (fxS m.slot m.turns R m.nodes.length loads sil m.arr r0++[(3,.box m.cs),(6,.box (Me.cs ⟨[],0,0,[]⟩))]) R (Dc m)) ?_ ?_
   ·refine AeQ hS hn32 ?_ ?_ ?_ ?_ ?_ ?_ ?_ ?_ ?_ ?_ ?_
    all_goals first|rfl|skip
    ·intro j hj;simp(disch:=omega) only [St.Ca,Mo,Gd,Eo];rw[<-Ds hgl];exact Kn GQ (X:=Pw m m.nodes.length) (by omega) (by omega)
    ·intro j hj;simp(disch:=omega) only [St.Ca,Mo,Gd,Eo];rw[<-Ds hgl];exact LI GQ (X:=Pw m m.nodes.length) (by omega) (by omega)
   have hw100:(Dc m).length<=100:=by simp[Dc];omega
   rw[Ds hw100]
   repeat'(first|refine sC ?_|(show VR _ _ _ (⟨_,.makeFunc _ #[_] #[],_,_,_,_⟩ :: _) _ _ _;first|refine Nx (pn:=9100) (gk rfl) rfl rfl rfl ?_)|refine Ak rfl (by exact tt0) ?_|(refine gE ?_;first|refine BB (gk rfl) rfl rfl (by rfl) rfl rfl ?_)|fail)
   have hO2:∀k:Nat,Pz [(3,.c (.ptr 3 0)),(6,.c (.ptr 6 0)),(7,.c (.ptr 100 0)),(66,AD (fnD r0)),(67,AI 8),(68,AI (k:Int))] [(3,.box m.cs),(6,.box (Me.cs ⟨[],0,0,[]⟩))]:=fun k=>Ad9 (m:=m) (by intro p hp;simp only[AgD,Agq,or_false] at hp;rcases hp with rfl|rfl|rfl|rfl|rfl|rfl|rfl|rfl|rfl|rfl|rfl<;>refine⟨rfl,fun n hn=>?_⟩<;>simp only[AV.names,AV.Ch,C.names,AgD,Agq,or_false] at hn<;>omega)
   refine AK (ι:=Nat) (fun k=>lsS [(3,.c (.ptr 3 0)),(6,.c (.ptr 6 0)),(7,.c (.ptr 100 0)),(66,AD (fnD r0)),(67,AI 8),(68,AI (k:Int))] (fxS m.slot m.turns R m.nodes.length loads sil (phK m loads sil k).1 r0++[(3,.box m.cs),(6,.box (Me.cs ⟨[],0,0,[]⟩))]) R (phK m loads sil k).2) (fun k=>k<=8) (fun k=>8-k) 0 (Ag1 _) ?_ ?_
   ·refine AeP (k:=0) (A:=phK m loads sil 0) hS hn32 (hO2 0) (II 0) ?_ ?_ ?_ ?_ ?_ ?_ ?_ ?_
    all_goals first|rfl|skip
    intro n b hn66 hb;simp(disch:=omega) only [St.Ca,Mo,Gd,Eo];rw[<-Ds hw100];exact HX hb
   ·intro k hk;have hO3:∀i:Nat,Pz [(3,.c (.ptr 3 0)),(6,.c (.ptr 6 0)),(7,.c (.ptr 100 0)),(66,AD (fnD r0)),(67,AI 8),(68,AI (k:Int)),(11,AD (.raw (fnV (gsF k) r0))),(75,AD (DK R m.nodes.length)),(76,AI m.nodes.length),(77,AI (i:Int))] [(3,.box m.cs),(6,.box (Me.cs ⟨[],0,0,[]⟩))]:=fun i=>Ad9 (m:=m) (by intro p hp;simp only[AgD,Agq,or_false] at hp;rcases hp with rfl|rfl|rfl|rfl|rfl|rfl|rfl|rfl|rfl|rfl|rfl<;>refine⟨rfl,fun n hn=>?_⟩<;>simp only[AV.names,AV.Ch,C.names,AgD,Agq,or_false] at hn<;>omega)
    have hO4:∀i:Nat,Pz [(3,.c (.ptr 3 0)),(6,.c (.ptr 6 0)),(7,.c (.ptr 100 0)),(66,AD (fnD r0)),(67,AI 8),(68,AI (k:Int)),(11,AD (.raw (fnV (gsF k) r0))),(13,AD (.raw (pvo (R i).blk 0))),(75,AD (DK R m.nodes.length)),(76,AI m.nodes.length),(77,AI (i:Int))] [(3,.box m.cs),(6,.box (Me.cs ⟨[],0,0,[]⟩))]:=fun i=>Ad9 (m:=m) (by intro p hp;simp only[AgD,Agq,or_false] at hp;rcases hp with rfl|rfl|rfl|rfl|rfl|rfl|rfl|rfl|rfl|rfl|rfl<;>refine⟨rfl,fun n hn=>?_⟩<;>simp only[AV.names,AV.Ch,C.names,AgD,Agq,or_false] at hn<;>omega)
    have h64:∀k,(phK m loads sil k).2.length<=64:=fun k=>by rw[II];omega
    have h64i:∀k i,(IJ m loads sil k (phK m loads sil k) i).2.length<=64:=fun k i=>by rw[Vq,II];omega
    by_cases hc8:k<8
    ·have hd:decide ((k:Int)<8)=true:=Agj (by omega)
     repeat'(first|refine sC ?_|refine Ak rfl (by exact tt0) ?_|(refine gI ?_;first|refine Au (gk rfl) rfl rfl rfl rfl rfl (by omega) rfl ?_)|(refine gN ?_;first|refine Aj (gk rfl) rfl rfl ?_)|(refine gD ?_;first|refine Ai rfl ?_|refine At rfl (by assumption) ?_)|fail)
     refine AK (ι:=Nat) (fun i=>lsS [(3,.c (.ptr 3 0)),(6,.c (.ptr 6 0)),(7,.c (.ptr 100 0)),(66,AD (fnD r0)),(67,AI 8),(68,AI (k:Int)),(11,AD (.raw (fnV (gsF k) r0))),(75,AD (DK R m.nodes.length)),(76,AI m.nodes.length),(77,AI (i:Int))] (fxS m.slot m.turns R m.nodes.length loads sil (IJ m loads sil k (phK m loads sil k) i).1 r0++[(3,.box m.cs),(6,.box (Me.cs ⟨[],0,0,[]⟩))]) R (IJ m loads sil k (phK m loads sil k) i).2) (fun i=>i<=m.nodes.length) (fun i=>m.nodes.length-i) 0 (Ag1 _) ?_ ?_
     ·exact JG (l:=[]) (hO3 0) (h64 k) (fun n=>rfl) (by intro p hp;simp only[AgD,Agq,or_false] at hp;rcases hp with rfl|rfl|rfl|rfl|rfl|rfl|rfl|rfl|rfl|rfl|rfl<;>rfl)
     ·intro i hi;by_cases hci:i<m.nodes.length
      ·have hdi:decide ((i:Int)<(m.nodes.length:Int))=true:=Agj (by omega)
       repeat'(first|refine sA ?_|refine Ak rfl (by exact tt0) ?_|(refine gI ?_;first|refine Au (gk rfl) rfl rfl rfl rfl rfl (by omega) rfl ?_)|refine sq 13 rfl ?_|((fail_if_success (show VC _ (.region 13 _ _) _ _));refine Bg ?_)|(refine gD ?_;first|refine Ai rfl ?_|refine At rfl (by assumption) ?_)|refine B0 ?_|fail)
       refine VC.le (σ':=lsS [(3,.c (.ptr 3 0)),(6,.c (.ptr 6 0)),(7,.c (.ptr 100 0)),(66,AD (fnD r0)),(67,AI 8),(68,AI (k:Int)),(11,AD (.raw (fnV (gsF k) r0))),(13,AD (.raw (pvo (R i).blk 0))),(75,AD (DK R m.nodes.length)),(76,AI m.nodes.length),(77,AI (i:Int))] (fxS m.slot m.turns R m.nodes.length loads sil (IJ m loads sil k (phK m loads sil k) i).1 r0++[(3,.box m.cs),(6,.box (Me.cs ⟨[],0,0,[]⟩))]) R (IJ m loads sil k (phK m loads sil k) i).2) (JG (l:=[]) (hO4 i) (h64i k i) (fun n=>rfl) (by intro p hp;simp only[AgD,Agq,or_false] at hp;rcases hp with rfl|rfl|rfl|rfl|rfl|rfl|rfl|rfl|rfl|rfl|rfl<;>rfl)) ?_;refine QR (hO4 i) (h64i k i) (h64i k (i+1)) rfl rfl rfl rfl rfl (Tz hc8) (Yh (hO4 i) hsl hn32 hll hik hc8 hci) ?_ ?_
       ·intro σ h
        repeat (first|replace h:=NJ h|replace h:=TW h)
        rcases h.1 with h|h<;>cases h
       repeat'(first|refine sR ?_|refine Ak rfl (by first|exact tt0|omega) ?_|fail)
       refine⟨i+1,by omega,by omega,?_⟩;exact JG (l:=[]) (hO3 (i+1)) (h64i k (i+1)) (fun n=>rfl) (by intro p hp;simp only[AgD,Agq,or_false] at hp;rcases hp with rfl|rfl|rfl|rfl|rfl|rfl|rfl|rfl|rfl|rfl|rfl<;>rfl)
      ·have hdi:decide ((i:Int)<(m.nodes.length:Int))=false:=Agk (by omega);have hin:i=m.nodes.length:=by omega
       subst hin
       repeat'(first|refine sB ?_|refine Ak rfl (by first|exact tt0|omega) ?_|(refine gD ?_;first|refine Ah rfl ?_|refine At rfl (by assumption) ?_)|fail)
       refine⟨k+1,by omega,by omega,?_⟩;exact JG (l:=[]) (hO2 (k+1)) (h64 (k+1)) (fun n=>rfl) (by intro p hp;simp only[AgD,Agq,or_false] at hp;rcases hp with rfl|rfl|rfl|rfl|rfl|rfl|rfl|rfl|rfl|rfl|rfl<;>rfl)
    ·have hd:decide ((k:Int)<8)=false:=Agk (by omega);have hk8:k=8:=by omega
     subst hk8;have hlA:(phK m loads sil 8).2.length=m.nodes.length:=II 8;rw[UA];generalize phK m loads sil 8=A at hlA ⊢;have hA64:A.2.length<=64:=by omega
     rw[Ds (by omega)]
     repeat'(first|refine sC ?_|refine Ak rfl (by first|exact tt0|omega) ?_|(refine gN ?_;first|refine Aj (gk rfl) rfl rfl ?_)|refine Ap (by kernel_rfl) ?_|(refine gD ?_;first|refine Ah rfl ?_)|fail)
     refine VC.le (MP (bx:=14) (nm:=104) (T:=45) (sz:=22) (j:=0) rfl rfl rfl) ?_;refine AK (ι:=Nat) (fun i=>lsS [(6,.c (.ptr 6 0)),(14,.c (.ptr 14 0)),(99,AD (DK R m.nodes.length)),(100,AI m.nodes.length),(101,AI (i:Int))] (fx6 m A i) R A.2) (fun i=>i<=m.nodes.length) (fun i=>m.nodes.length-i) 0 (Ag1 _) ?_ ?_
     ·refine F1 D9 hA64 ⟨⟨_,rfl,.c (.ptr rfl)⟩,⟨_,rfl,.c (.ptr rfl)⟩,⟨_,rfl,.c .d⟩,⟨_,rfl,.c .d⟩,⟨_,rfl,.c .d⟩,trivial⟩ ⟨⟨_,rfl,.box (CWs.Ep _)⟩,⟨_,rfl,.row (WV.Ep _)⟩,⟨_,rfl,.row (WV.Ep _)⟩,⟨_,rfl,.box (CWs.Ep _)⟩,trivial⟩ (fun j hj=>?_) (fun j hj=>?_) ?_ Kz
      ·simp(disch:=omega) only [St.Ca,Mo,Gd,Eo];rw[<-Ds (by omega)];exact Kn (H6 (hO2 8)) hA64 hj
      ·simp(disch:=omega) only [St.Ca,Mo,Gd,Eo];rw[<-Ds (by omega)];exact LI (H6 (hO2 8)) hA64 hj
      ·intro p hp;simp only[AgD,Agq,or_false] at hp;rcases hp with rfl|rfl|rfl|rfl|rfl<;>refine⟨rfl,fun n hn=>?_⟩<;>simp only[AV.names,AV.Ch,C.names,AgD,Agq,or_false] at hn<;>subst hn<;>rfl
     ·intro i hi;by_cases hci:i<m.nodes.length
      ·have hdi:decide ((i:Int)<(m.nodes.length:Int))=true:=Agj (by omega);have hol:(Pt A i).length=i:=Aap (by omega)
       repeat'(first|refine sA ?_|refine Ak rfl (by exact tt0) ?_|(refine gI ?_;first|refine Au (gk rfl) rfl rfl rfl rfl rfl (by omega) rfl ?_)|refine sq 20 rfl ?_|((fail_if_success (show VC _ (.region 20 _ _) _ _));refine Bg ?_)|(refine gD ?_;first|refine Ai rfl ?_|refine At rfl (by assumption) ?_)|refine B0 ?_|fail)
       refine VC.le (Oy (s:=16) (nm:=8000+i) (pn:=20000+i) (r:=R i) (off:=0) rfl (LI (l:=[]) D9 hA64 (by omega))) ?_;refine VC.le (σ':=lsS [(16,.c (.ptr (8000+i) 0)),(6,.c (.ptr 6 0)),(14,.c (.ptr 14 0)),(99,AD (DK R m.nodes.length)),(100,AI m.nodes.length),(101,AI (i:Int))] (fx6 m A i) R A.2) ?_ ?_
       ·refine F1 D9 hA64 ⟨⟨_,rfl,.c (.ptr rfl)⟩,⟨_,rfl,.c (.ptr rfl)⟩,⟨_,rfl,.c (.ptr rfl)⟩,⟨_,rfl,.c .d⟩,⟨_,rfl,.c .d⟩,⟨_,rfl,.c .d⟩,trivial⟩ ⟨⟨_,rfl,.box (CWs.Ep _)⟩,⟨_,rfl,.row (WV.Ep _)⟩,⟨_,rfl,.row (WV.Ep _)⟩,⟨_,rfl,.box (CWs.Ep _)⟩,trivial⟩ (fun j hj=>Kn (l:=[]) D9 hA64 hj) (fun j hj=>LI (l:=[]) D9 hA64 hj) ?_ Kz;have hxi:=LK (R:=R) (FX:=fx6 m A i) D9 hA64 (show i<A.2.length by omega);intro p hp;simp only[AgD,Agq,or_false] at hp;rcases hp with rfl|rfl|rfl|rfl|rfl|rfl<;>refine⟨rfl,fun n hn=>?_⟩<;>simp only[AV.names,AV.Ch,C.names,AgD,Agq,or_false] at hn<;>subst hn<;>first|rfl|exact hxi
       have hbx:stX [] (fx6 m A i) R A.2 (.b (8000+i))=some (.k (.box (A.2.getD i default).cs)):=by
        rw[<-Ds (by omega)];exact Kn D9 hA64 (by omega)
       rw[Ds (by omega)]
       repeat'(first|refine sR ?_|(refine gL ?_;first|refine Hj (gk rfl) rfl (hbx) rfl rfl rfl ?_)|refine Ak rfl (by first|exact tt0|omega) ?_|(refine gA ?_;first|refine Be (gk rfl) rfl rfl rfl (by exact Al.symm) (by exact .row rfl (by rfl)) rfl rfl rfl (by(try dsimp only);omega) rfl rfl ?_)|(refine gN ?_;first|refine Aj (gk rfl) rfl rfl ?_)|refine Ap (by kernel_rfl) ?_|fail)
       refine⟨i+1,by omega,by omega,?_⟩;refine Adf hA64 (by omega) ?_ ?_ ?_ ?_ ?_ ?_ ?_ ?_ ?_ ?_ ?_
       all_goals first|rfl|skip
       ·intro j hj;simp(disch:=omega) only [St.Ca,Mo,Gd,Eo];rw[<-Ds (by omega)];exact Kn D9 hA64 hj
       ·intro j hj;simp(disch:=omega) only [St.Ca,Mo,Gd,Eo];rw[<-Ds (by omega)];exact LI D9 hA64 hj
      ·have hdi:decide ((i:Int)<(m.nodes.length:Int))=false:=Agk (by omega);have hin:i=m.nodes.length:=by omega
       subst hin;have hoa:Pt A m.nodes.length=A.2.map (·.nd):=by
        unfold Pt;rw[<-hlA,List.take_length]
       repeat'(first|refine sA ?_|refine Ak rfl (by exact tt0) ?_|refine sq 22 rfl ?_|((fail_if_success (show VC _ (.region 22 _ _) _ _));refine Bg ?_)|(refine gD ?_;first|refine Ah rfl ?_|refine At rfl (by assumption) ?_)|fail)
       refine VC.le (σ':=AS [(6,.c (.ptr 6 0)),(14,.c (.ptr 14 0))] [(14,.box [.d (mns (Pt A m.nodes.length)),.d (.int .i64 (m.slot+1)),.d (.int .i64 m.turns),.d (ars A.1)]),(6,.box (Me.cs ⟨[],0,0,[]⟩))]) ?_ ?_
       ·refine Bm (fun n=>n) [102,104] hS ?_ ?_ rfl (by rfl)
        all_goals repeat'(first|exact tt0|refine⟨⟨_,rfl,?_⟩,?_⟩|exact .c (.ptr rfl)|exact .Bs rfl rfl|refine .box ?_|exact .nil|refine .cons ?_ ?_|exact .d|exact .Cd (by(simp;done)) rfl rfl (fun _=>rfl)|fail)
       rw[hoa]
       repeat'(first|refine sB ?_|refine Ak rfl (by exact tt0) ?_|fail)
       exact P.Ju Ab rfl rfl rfl rfl rfl
end Go.Proofs.M
end
section
namespace Go.Proofs.M
open Go Go.Sx Go.Proofs Go.Proofs.T Go.Proofs.Q
open Go.Proofs.P (Nb nbs Rk rkA rkErr checkNb hearM countM forgetM select')
open Go.Proofs.R (startM advM)
set_option maxRecDepth 4000
attribute [local irreducible] VR VC thenQ blockQ retL
def spK (t:Tb) (k:Nat):List Sp:=((t.cells.take k).filter fun c=>decide (c.kind=3)).map fun c=>⟨c.slot,c.offset⟩
theorem Aab (t:Tb) (k:Nat):(spK t k).length<=t.cells.length:=by
 unfold spK;have h1:=AgS (fun c:TC=>decide (c.kind=3)) (t.cells.take k);rw[Agz];rw[Ags] at h1;omega
theorem Aac (t:Tb):spK t t.cells.length=G7 t:=by unfold spK G7;rw[List.take_length]
theorem Xd {t:Tb} {k:Nat} (hk:k<t.cells.length):spK t (k+1)=if(t.cells.getD k default).kind=3 then spK t k++[⟨(t.cells.getD k default).slot,(t.cells.getD k default).offset⟩] else spK t k:=by
 unfold spK;have e:t.cells.take (k+1)=t.cells.take k++[t.cells.getD k default]:=by
  rw[List.take_add_one,Agi,Agr hk];rfl
 rw[e,List.filter_append,Ag8];by_cases h:(t.cells.getD k default).kind=3
 ·rw[AgZ h];simp only[List.filter_cons,Agj h,List.filter_nil,if_true,List.map_cons,List.map_nil]
 ·rw[AgY h];simp only[List.filter_cons,Agk h,List.filter_nil,Bool.false_eq_true,if_false,List.map_nil,AgF]
set_option maxHeartbeats 1000000 in
theorem FG (t:Tb) (hl:t.cells.length<=100000):FnS Tryz.prog 70 [tbA t] [] (AD (sps (G7 t))) []:=by
 refine fb Tryz.func70 (by kernel_rfl) rfl Tryz.ntmps70 Tryz.results70 rfl rfl rfl rfl fun E hS=>?_
 refine AJ ?_
 repeat'(first|refine sC ?_|refine Ak rfl (by exact tt0) ?_|fail)
 refine VC.le (le_nil (t:=3) (nm:=103) (T:=115) (sz:=2) rfl rfl) ?_;refine AK (ι:=Nat) (fun k=>AS [(1,.c (.ptr 1 0)),(3,.c (.row 103 (spK t k).length)),(7,AD (tcs t.cells)),(8,AI t.cells.length),(9,AI k)] [(1,.box t.cs),(103,.row 115 2 (rowOf Sp.enc (spK t k)))]) (fun k=>k<=t.cells.length) (fun k=>t.cells.length-k) 0 (Ag1 _) ?_ ?_
 ·refine lg ?_ ?_ rfl (by rfl)
  all_goals repeat'(first|exact tt0|refine⟨⟨_,rfl,?_⟩,?_⟩|exact .c .d|exact .c (.ptr rfl)|exact .c (.row rfl rfl)|exact .Bs rfl rfl|exact .Bc rfl Ag|fail)
 ·intro k hk;have hkl:=Aab t k;by_cases hc:k<t.cells.length
  ·have hd:decide ((k:Int)<(t.cells.length:Int))=true:=Agj (by omega);have hs:=Xd hc;by_cases h3:(t.cells.getD k default).kind=3
   ·have d3:decide ((t.cells.getD k default).kind=3)=true:=Agj h3;rw[AgZ h3] at hs
    repeat'(first|refine sC ?_|refine Ak rfl (by first|exact tt0|omega) ?_|(refine gI ?_;first|refine Au (gk rfl) rfl rfl rfl rfl rfl (by omega) rfl ?_)|(refine gA ?_;first|refine Be (gk rfl) rfl rfl rfl (by exact Al.symm) (by exact .row rfl (by rfl)) rfl rfl rfl (by(try dsimp only);omega) rfl rfl ?_)|(refine gD ?_;first|refine Ai rfl ?_|refine At rfl (by assumption) ?_)|fail)
    refine⟨k+1,by omega,by omega,?_⟩;rw[hs,Agn];refine Am (fun n=>if n=103 then 23 else n) ?_ ?_ rfl (by(simp only[wfL,wfs,Ae,Ad];rfl))
    all_goals repeat'(first|exact tt0|refine⟨⟨_,rfl,?_⟩,?_⟩|exact .c .d|exact .c (.ptr rfl)|exact .c (.row rfl rfl)|exact .Bs rfl rfl|(refine .Bc ?_ Ag;rw[AZ];rfl)|fail)
   ·have d3:decide ((t.cells.getD k default).kind=3)=false:=Agk h3;rw[AgY h3] at hs
    repeat'(first|refine sC ?_|refine Ak rfl (by first|exact tt0|omega) ?_|(refine gI ?_;first|refine Au (gk rfl) rfl rfl rfl rfl rfl (by omega) rfl ?_)|(refine gD ?_;first|refine Ai rfl ?_|refine Ah rfl ?_|refine At rfl (by assumption) ?_)|fail)
    refine⟨k+1,by omega,by omega,?_⟩;rw[hs];refine Am (fun n=>n) ?_ ?_ rfl (by(simp only[wfL,wfs,Ae,Ad];rfl))
    all_goals repeat'(first|exact tt0|refine⟨⟨_,rfl,?_⟩,?_⟩|exact .c .d|exact .c (.ptr rfl)|exact .c (.row rfl rfl)|exact .Bs rfl rfl|exact .Bc rfl Ag|fail)
  ·have hd:decide ((k:Int)<(t.cells.length:Int))=false:=Agk (by omega);have hkl:k=t.cells.length:=by omega
   subst hkl;rw[<-Aac]
   repeat'(first|refine sB ?_|refine Ak rfl (by exact tt0) ?_|(refine gD ?_;first|refine Ah rfl ?_|refine At rfl (by assumption) ?_)|fail)
   refine Ao (Bm (l:=[(2,AD (sps (spK t t.cells.length)))]) (b:=[]) (fun n=>n) [103] hS ?_ ?_ rfl (by rfl)) (P1 Ab rfl rfl)
   all_goals repeat'(first|exact tt0|refine⟨⟨_,rfl,?_⟩,?_⟩|exact .c (.Cd (by(simp;done)) rfl rfl (fun _=>rfl))|fail)
theorem OW (a b:List Sp):FnS Tryz.prog 69 [AD (sps a),AD (sps b)] [] (AB (decide (a=b))) []:=by
 refine fb Tryz.func69 (by kernel_rfl) rfl Tryz.ntmps69 Tryz.results69 rfl rfl rfl rfl fun E hS=>?_
 refine B9 (t:=0) rfl fun hb=>?_
 repeat'(first|refine sC ?_|refine Ak rfl (by exact tt0) ?_|(refine gD ?_;first|(refine Ay rfl ?_ ?_<;>intro h<;>have hq:=h<;>(try simp only[hqs] at hq)))|fail)
 ·refine Aw Ab rfl ?_;have:a≠b:=fun e=>by subst e;simp_all
  simp[this]
 ·refine AK (ι:=Nat) (fun k=>AS [(0,AD (sps a)),(1,AD (sps b)),(12,AI a.length),(13,AI k)] []) (fun k=>k<=a.length/\∀i,i<k->a.getD i default=b.getD i default) (fun k=>a.length-k) 0 ⟨Ag1 _,fun i hi=>absurd hi (AgW _)⟩ ?_ ?_
  ·exact Ck ⟨rfl,rfl,rfl,rfl,trivial⟩ trivial rfl
  ·rintro k ⟨hk,hall⟩
   repeat'(first|refine sC ?_|refine Ak rfl (by first|exact tt0|omega) ?_|(refine gI ?_;first|refine Au (gk rfl) rfl rfl rfl rfl rfl (by omega) rfl ?_)|(refine gB ?_;first|refine PB (gk rfl) rfl rfl rfl rfl rfl rfl rfl ?_)|refine Ap (by kernel_rfl) ?_|(refine gD ?_;first|(refine Ay rfl ?_ ?_<;>intro h<;>have hq:=h<;>(try simp only[hqs] at hq)))|fail)
   ·refine Aw Ab rfl ?_;have:a≠b:=fun e=>hq (by rw[e])
    simp[this]
   ·refine⟨k+1,⟨by omega,fun i hi=>?_⟩,by omega,Ck ⟨rfl,rfl,rfl,rfl,trivial⟩ trivial rfl⟩;by_cases hik:i<k
    ·exact hall i hik
    ·have:i=k:=by omega
     subst this;exact AeD hq
   ·refine Aw Ab rfl ?_;have:a=b:=Go.Sx.HZ (by omega) fun i hi=>hall i (by omega)
    simp[this]
abbrev JA (p:Nb->Bool):List DV->DV->Prop:=fun ds r=>∃x:Nb,ds=[.agg x.enc]/\r=.d (.bool (p x))
theorem AaL (l:List Nb) (p:Nb->Bool):FnS Tryz.prog 117 [AD (nbs l),.clo (JA p)] [] (AI (oI (Fs l p))) []:=by
 refine fb Tryz.func117 (by kernel_rfl) rfl Tryz.ntmps117 Tryz.results117 rfl rfl rfl rfl fun E hS=>?_
 refine B9 (t:=0) rfl fun hb=>?_
 repeat'(first|refine sC ?_|refine Ak rfl (by exact tt0) ?_|fail)
 refine AK (ι:=Nat) (fun k=>AS [(0,AD (nbs l)),(1,.clo (JA p)),(7,AI l.length),(8,AI k)] []) (fun k=>k<=l.length/\∀i,i<k->p (l.getD i default)=false) (fun k=>l.length-k) 0 ⟨Ag1 _,fun i hi=>absurd hi (AgW _)⟩ ?_ ?_
 ·exact Ck ⟨rfl,rfl,rfl,rfl,trivial⟩ trivial rfl
 ·intro k hk
  repeat'(first|refine sC ?_|refine Ak rfl (by first|exact tt0|omega) ?_|(refine gC ?_;first|refine E2 (⟨_,rfl,rfl⟩) (gk rfl) rfl rfl rfl rfl ?_)|(refine gI ?_;first|refine Au (gk rfl) rfl rfl rfl rfl rfl (by omega) rfl ?_)|(refine gD ?_;first|(refine Ay rfl ?_ ?_<;>intro h<;>have hq:=h<;>(try simp only[hqs] at hq)))|fail)
  ·refine AG Ab rfl ?_;rw[Ey hk.2 (by omega) h];rfl
  ·refine⟨k+1,⟨by omega,fun i hi=>?_⟩,by omega,Ck ⟨rfl,rfl,rfl,rfl,trivial⟩ trivial rfl⟩;by_cases hik:i<k
   ·exact hk.2 i hik
   ·have:i=k:=by omega
    subst this;exact h
  ·refine AG Ab rfl ?_;have:k=l.length:=by omega
   subst this;rw[DR hk.2];rfl
theorem O3 (l:List Nb) (p:Nb->Bool):FnS Tryz.prog 74 [AD (nbs l),.clo (JA p)] [] (AB (l.any p)) []:=by
 refine fb Tryz.func74 (by kernel_rfl) rfl Tryz.ntmps74 Tryz.results74 rfl rfl rfl rfl fun E hS=>?_
 repeat'(first|refine sB ?_|refine Ak rfl (by exact tt0) ?_|(refine gC ?_;first|refine AF [] (AaL l p) (gk rfl) rfl (by(repeat'(first|exact .nil|refine .cons ?_ ?_|exact .of0 (.c .d)|exact .clo))<;>fail) (by rfl) rfl (by rfl) rfl (by rfl) rfl ?_)|fail)
 all_goals exact Aw Ab rfl (E9 _ _).symm
def AbA (m:Me) (x:Nb):Bool:=decide ((m.nodes.length:Int)<=x.node)
theorem P0 (x:Nb) (m:Me):FnS Tryz.prog 71 [.agg x.cs,.ep (fun j=>m.enc.getD j .Db) 4] [] (AB (AbA m x)) []:=by
 refine fb Tryz.func71 (by kernel_rfl) rfl Tryz.ntmps71 Tryz.results71 rfl rfl rfl rfl fun E hS=>?_
 repeat'(first|refine sB ?_|refine Ak rfl (by exact tt0) ?_|fail)
 all_goals(refine Aw Ab rfl ?_;unfold AbA;first|rfl|(simp_all;done)|(simp_all;omega))
theorem S2 {σ:St} {m:Me} {n1:Nat} {L:List Nat} (hL:n1∈L) (h1:σ (.b n1)=some (.k (.box m.cs))):AR Tryz.prog σ L (.fnc 71 [.ptr n1 0]) (.clo (JA (AbA m))):=
 .fnc (eps:=[.ep (fun j=>m.enc.getD j .Db) 4]) (.cons (.ptr hL h1 (fun j hj=>by
  have:j=0\/j=1\/j=2\/j=3:=by omega
  rcases this with rfl|rfl|rfl|rfl<;>rfl)) .nil) (enters_of Tryz.func71 (by kernel_rfl) rfl)
  (by rintro _ _ ⟨x,rfl,rfl⟩;exact⟨rfl,P0 x m⟩)
theorem SY (m:Me) (i:Nat) (hi:i<m.nodes.length) (h0:AQ (m.nodes.getD i default).st=0->(m.nodes.getD 0 default).st.tb.cells.length<=100000) (h1:AQ (m.nodes.getD i default).st=0->(m.nodes.getD i default).st.tb.cells.length<=100000):
  FnS Tryz.prog 44 [meA m,AI (i:Int)] [] (AB (FZ m i)) []:=by
 have c1:=Dv (m.nodes.getD i default).st;have c2:=P.Dq (m.nodes.getD i default).rk;have c3:=P.BM (m.nodes.getD i default).nb;have c4:=O3 (m.nodes.getD i default).nb (AbA m);have h00:0<m.nodes.length:=by omega
 by_cases hck:AQ (m.nodes.getD i default).st=0
 ·have c5:=FG (m.nodes.getD 0 default).st.tb (h0 hck);have c6:=FG (m.nodes.getD i default).st.tb (h1 hck);clear h0 h1;have c7:=OW (G7 (m.nodes.getD i default).st.tb) (G7 (m.nodes.getD 0 default).st.tb);have d1:decide (AQ (m.nodes.getD i default).st≠0)=false:=Agk (fun h=>h hck);refine fb Tryz.func44 (by kernel_rfl) rfl Tryz.ntmps44 Tryz.results44 rfl rfl rfl rfl fun E hS=>?_
  repeat'(first|refine sB ?_|refine Ak rfl (by exact tt0) ?_|(refine gC ?_;first|refine Aa (c1) (gk rfl) rfl rfl rfl (by rfl) rfl (by rfl) rfl ?_|refine Aa (c2) (gk rfl) rfl rfl rfl (by rfl) rfl (by rfl) rfl ?_|refine Aa (c3) (gk rfl) rfl rfl rfl (by rfl) rfl (by rfl) rfl ?_|refine Aa (c5) (gk rfl) rfl rfl rfl (by rfl) rfl (by rfl) rfl ?_|refine Aa (c6) (gk rfl) rfl rfl rfl (by rfl) rfl (by rfl) rfl ?_|refine Aa (c7) (gk rfl) rfl rfl rfl (by rfl) rfl (by rfl) rfl ?_|refine AF [2] (c4) (gk rfl) rfl (by(repeat'(first|exact .nil|refine .cons ?_ ?_|exact .of0 (.c .d)|exact(S2 (by simp) rfl)))<;>fail) (by rfl) rfl (by rfl) rfl (by rfl) rfl ?_)|(refine gI ?_;first|refine Au (gk rfl) rfl rfl rfl rfl rfl (by omega) rfl ?_)|refine Az rfl (by assumption) ?_|(refine Ax rfl ?_ ?_<;>intro h<;>have hq:=h<;>(try simp only[hqs] at hq))|refine Ap (by kernel_rfl) ?_|(refine gD ?_;first|refine Ai rfl ?_|(refine Ay rfl ?_ ?_<;>intro h<;>have hq:=h<;>(try simp only[hqs] at hq)))|fail)
  all_goals refine Aw Ab rfl ?_
  all_goals clear c1 c2 c3 c4 c5 c6 c7 d1
  all_goals unfold FZ
  all_goals rw[show(fun n:Nb=>decide ((m.nodes.length:Int)<=n.node))=AbA m from rfl]
  all_goals generalize m.nodes.getD i default=x at *
  all_goals generalize m.nodes.getD 0 default=y at *
  all_goals generalize x.nb.any (AbA m)=B at *
  all_goals first|(simp_all;done)|(simp_all;omega)
 ·have d1:decide (AQ (m.nodes.getD i default).st≠0)=true:=Agj hck;refine fb Tryz.func44 (by kernel_rfl) rfl Tryz.ntmps44 Tryz.results44 rfl rfl rfl rfl fun E hS=>?_
  repeat'(first|refine sB ?_|refine Ak rfl (by exact tt0) ?_|(refine gC ?_;first|refine Aa (c1) (gk rfl) rfl rfl rfl (by rfl) rfl (by rfl) rfl ?_)|(refine gI ?_;first|refine Au (gk rfl) rfl rfl rfl rfl rfl (by omega) rfl ?_)|refine Az rfl (by assumption) ?_|refine Ap (by kernel_rfl) ?_|(refine gD ?_;first|refine Ai rfl ?_)|fail)
  all_goals refine Aw Ab rfl ?_
  all_goals unfold FZ
  all_goals rw[Agk (fun h=>hck h.1)];rfl
theorem SZ {m:Me} {i:Nat} (h:FZ m i=true):(m.nodes.getD i default).st.tb.cells.length<=100000:=by
 have:=(Cn (Bf ((IF.1 h).st)).1).1;omega
set_option maxHeartbeats 1000000 in
theorem BM (m:Me):FnS Tryz.prog 15 [meA m] [] (AI (BX m)) []:=by
 have hst:∀i,AQ (m.nodes.getD i default).st=0->(m.nodes.getD i default).st.tb.cells.length<=100000:=fun i h=>by
  have:=(Cn (Bf h).1).1;omega
 refine fb Tryz.func15 (by kernel_rfl) rfl Tryz.ntmps15 Tryz.results15 rfl rfl rfl rfl fun E hS=>?_
 repeat'(first|refine sC ?_|refine Ak rfl (by exact tt0) ?_|(refine Ax rfl ?_ ?_<;>intro h<;>have hq:=h<;>(try simp only[hqs] at hq))|(refine gD ?_;first|refine Ai rfl ?_|(refine Ay rfl ?_ ?_<;>intro h<;>have hq:=h<;>(try simp only[hqs] at hq)))|fail)
 all_goals first
  |(refine AG Ab rfl ?_;exact AgZ (by omega))
  |skip
 have e:BX m=if(List.range m.nodes.length).any (fun i=>!FZ m i) then 1 else 0:=AgY (by omega)
 rw[e];refine AK (ι:=Nat) (fun k=>AS [(1,.c (.ptr 1 0)),(42,AI m.nodes.length),(43,AI k)] [(1,.box m.cs)]) (fun k=>k<=m.nodes.length/\∀i,i<k->FZ m i=true) (fun k=>m.nodes.length-k) 0 ⟨Ag1 _,fun i hi=>absurd hi (AgW _)⟩ ?_ ?_
 ·refine lg ?_ ?_ rfl (by rfl)
  all_goals repeat'(first|exact tt0|refine⟨⟨_,rfl,?_⟩,?_⟩|exact .c .d|exact .c (.ptr rfl)|exact .Bs rfl rfl|fail)
 ·rintro k ⟨hk,hall⟩;by_cases hc:k<m.nodes.length
  ·have hd:decide ((k:Int)<(m.nodes.length:Int))=true:=Agj (by omega);have hr:=SY m k hc (fun h=>by
    rcases Nat.eq_zero_or_pos k with h0|h0
    ·subst h0;exact hst 0 h
    ·exact SZ (hall 0 h0)) (hst k)
   cases hrk:FZ m k with
   |true=>
    have d1:(!FZ m k)=false:=by rw[hrk];rfl
    repeat'(first|refine sC ?_|refine Ak rfl (by first|exact tt0|omega) ?_|(refine gC ?_;first|refine Aa (hr) (gk rfl) rfl rfl rfl (by rfl) rfl (by rfl) rfl ?_)|(refine gD ?_;first|refine Ai rfl ?_|refine Ah rfl ?_|refine At rfl (by assumption) ?_)|fail)
    refine⟨k+1,⟨by omega,fun i hi=>?_⟩,by omega,?_⟩
    ·by_cases h:i<k
     ·exact hall i h
     ·have:i=k:=by omega
      subst this;exact hrk
    ·refine lg ?_ ?_ rfl (by rfl)
     all_goals repeat'(first|exact tt0|refine⟨⟨_,rfl,?_⟩,?_⟩|exact .c .d|exact .c (.ptr rfl)|exact .Bs rfl rfl|fail)
   |false=>
    have d1:(!FZ m k)=true:=by rw[hrk];rfl
    repeat'(first|refine sC ?_|refine Ak rfl (by exact tt0) ?_|(refine gC ?_;first|refine Aa (hr) (gk rfl) rfl rfl rfl (by rfl) rfl (by rfl) rfl ?_)|(refine gD ?_;first|refine Ai rfl ?_|refine At rfl (by assumption) ?_)|fail)
    refine AG Ab rfl ?_;exact AgZ (AgB.2 ⟨k,AgQ.2 hc,d1⟩)
  ·have hd:decide ((k:Int)<(m.nodes.length:Int))=false:=Agk (by omega)
   repeat'(first|refine sB ?_|refine Ak rfl (by exact tt0) ?_|(refine gD ?_;first|refine Ah rfl ?_|refine At rfl (by assumption) ?_)|fail)
   refine AG Ab rfl ?_;refine AgY fun h=>?_
   obtain⟨i,hi,h2⟩:=AgB.1 h;rw[hall i (by have:=AgQ.1 hi;omega)] at h2;cases h2
theorem Km (m:Me) (loads:List Ld) (sil:List Si):FnS Tryz.prog 54 [meA m,AD (lds loads),AD (sis sil)] [] (AI (Da m loads sil)) []:=by
 have hck:=BM m;refine fb Tryz.func54 (by kernel_rfl) rfl Tryz.ntmps54 Tryz.results54 rfl rfl rfl rfl fun E hS=>?_
 by_cases h:BX m=0
 ·have d1:decide (BX m≠0)=false:=Agk (fun hn=>hn h);have e:Da m loads sil=if 1024<loads.length\/1024<sil.length then 8 else 0:=AgY (fun hn=>hn h)
  rw[e]
  repeat'(first|refine sC ?_|refine Ak rfl (by exact tt0) ?_|(refine gC ?_;first|refine Aa (hck) (gk rfl) rfl rfl rfl (by rfl) rfl (by rfl) rfl ?_)|(refine Ax rfl ?_ ?_<;>intro h<;>have hq:=h<;>(try simp only[hqs] at hq))|(refine gD ?_;first|refine Ai rfl ?_|refine Ah rfl ?_|refine At rfl (by assumption) ?_|(refine Ay rfl ?_ ?_<;>intro h<;>have hq:=h<;>(try simp only[hqs] at hq)))|fail)
  all_goals(refine AG Ab rfl ?_;first|exact AgZ (by omega)|exact AgY (by omega))
 ·have d1:decide (BX m≠0)=true:=Agj h
  repeat'(first|refine sC ?_|refine Ak rfl (by exact tt0) ?_|(refine gC ?_;first|refine Aa (hck) (gk rfl) rfl rfl rfl (by rfl) rfl (by rfl) rfl ?_)|(refine gD ?_;first|refine Ai rfl ?_|refine At rfl (by assumption) ?_)|fail)
  exact AG Ab rfl (AgZ h)
theorem AeT {m:Me} (hm:BX m=0):IK m.nodes.length 0 (m.arr,Dc m):=by
 obtain⟨hh,hr⟩:=C7.1 hm;refine⟨hh.a1,by simp[Dc],fun j _ hj=>?_⟩;have e:(Dc m).getD j default=AbK (m.nodes.getD j default) j:=by simp[Dc,Agi,hj]
 show WOK j ((Dc m).getD j default);rw[e];exact⟨rfl,(hr j hj).st,(hr j hj).nx⟩
theorem Uy {m:Me} {loads:List Ld} {sil:List Si} (hm:BX m=0) (hl:loads.length<=1024):FnS Tryz.prog 55 [meA m,AD (lds loads),AD (sis sil)] [] (meA (Cz m loads sil)) []:=by
 obtain⟨hh,hr⟩:=C7.1 hm;obtain⟨g1,g2,g3,g4,g5,g6,g7⟩:=hh;exact Ux m loads sil (by omega) (by omega) (by omega) (by omega) (AeT hm)
theorem NO {m:Me} {loads:List Ld} {sil:List Si} (h:Da m loads sil=0):BX m=0/\loads.length<=1024/\sil.length<=1024:=by
 unfold Da at h
 split at h
 ·cases h
 ·rename_i hc
  split at h
  ·cases h
  ·omega
theorem AbD (m:Me) (loads:List Ld) (sil:List Si):FnS Tryz.prog 34 [meA m,AD (lds loads),AD (sis sil)] [] (.tup [meA (SO m loads sil).1,AI (SO m loads sil).2]) []:=by
 have hst:=Km m loads sil;refine fb Tryz.func34 (by kernel_rfl) rfl Tryz.ntmps34 Tryz.results34 rfl rfl rfl rfl fun E hS=>?_
 refine AJ ?_;by_cases h:Da m loads sil=0
 ·have d1:decide (Da m loads sil≠0)=false:=Agk (fun hn=>hn h);obtain⟨hm,hl,_⟩:=NO h;have hstep:=Uy (sil:=sil) hm hl;have e:SO m loads sil=if 16384<=m.slot then(noM,21) else(Cz m loads sil,0):=AgY (fun hn=>hn h)
  rw[e];by_cases h2:16384<=m.slot
  ·have d2:decide (16384<=m.slot)=true:=Agj h2;rw[AgZ h2]
   repeat'(first|refine sB ?_|refine Ak rfl (by exact tt0) ?_|(refine gC ?_;first|refine Aa (hst) (gk rfl) rfl rfl rfl (by rfl) rfl (by rfl) rfl ?_)|(refine gD ?_;first|refine Ai rfl ?_|refine Ah rfl ?_|refine At rfl (by assumption) ?_)|fail)
   refine Ao (Am (l:=[(6,.c (.ptr 6 0)),(7,AI 21)]) (b:=[(6,.box noM.cs)]) (fun n=>n) ?_ ?_ rfl (by rfl)) (AL Ab rfl rfl rfl rfl rfl rfl rfl)
   all_goals repeat'(first|exact tt0|refine⟨⟨_,rfl,?_⟩,?_⟩|exact .c .d|exact .c (.ptr rfl)|refine .box ?_|exact .nil|refine .cons ?_ ?_|exact .d|fail)
  ·have d2:decide (16384<=m.slot)=false:=Agk h2;rw[AgY h2]
   repeat'(first|refine sB ?_|refine Ak rfl (by exact tt0) ?_|(refine gC ?_;first|refine Aa (hst) (gk rfl) rfl rfl rfl (by rfl) rfl (by rfl) rfl ?_|refine Aa (hstep) (gk rfl) rfl rfl rfl (by rfl) rfl (by rfl) rfl ?_)|(refine gD ?_;first|refine Ah rfl ?_|refine At rfl (by assumption) ?_)|fail)
   refine Ao (Am (l:=[(6,.c (.ptr 6 0)),(7,AI 0)]) (b:=[(6,.box (Cz m loads sil).cs)]) (fun n=>n) ?_ ?_ rfl (by rfl)) (AL Ab rfl rfl rfl rfl rfl rfl rfl)
   all_goals repeat'(first|exact tt0|refine⟨⟨_,rfl,?_⟩,?_⟩|exact .c .d|exact .c (.ptr rfl)|exact .Bs rfl rfl|fail)
 ·have d1:decide (Da m loads sil≠0)=true:=Agj h;have e:SO m loads sil=(noM,Da m loads sil):=AgZ h;rw[e]
  repeat'(first|refine sB ?_|refine Ak rfl (by exact tt0) ?_|(refine gC ?_;first|refine Aa (hst) (gk rfl) rfl rfl rfl (by rfl) rfl (by rfl) rfl ?_)|(refine gD ?_;first|refine Ai rfl ?_|refine At rfl (by assumption) ?_)|fail)
  refine Ao (Am (l:=[(6,.c (.ptr 6 0)),(7,AI (Da m loads sil))]) (b:=[(6,.box noM.cs)]) (fun n=>n) ?_ ?_ rfl (by rfl)) (AL Ab rfl rfl rfl rfl rfl rfl rfl)
  all_goals repeat'(first|exact tt0|refine⟨⟨_,rfl,?_⟩,?_⟩|exact .c .d|exact .c (.ptr rfl)|refine .box ?_|exact .nil|refine .cons ?_ ?_|exact .d|fail)
set_option maxHeartbeats 1000000 in
theorem Od (m:Me) (CE:Int) (loads:List Ld) (sil:List Si):FnS Tryz.prog 23 [meA m,AI CE,AD (lds loads),AD (sis sil)] [] (.tup [meA (SU m CE loads sil).1,AI (SU m CE loads sil).2]) []:=by
 have hst:=Km m loads sil;refine fb Tryz.func23 (by kernel_rfl) rfl Tryz.ntmps23 Tryz.results23 rfl rfl rfl rfl fun E hS=>?_
 refine AJ ?_;by_cases h:Da m loads sil=0
 ·have d1:decide (Da m loads sil≠0)=false:=Agk (fun hn=>hn h);obtain⟨hm,hl,_⟩:=NO h;obtain⟨hh,_⟩:=C7.1 hm;have hs1:=hh.s1;have hs2:=hh.s2;have e:SU m CE loads sil=if CE<0\/4096<CE then(noM,2) else if 16384<m.slot+CE then(noM,21) else(runN loads sil CE.toNat m,0):=AgY (fun hn=>hn h)
  rw[e];by_cases h2:CE<0\/4096<CE
  ·rw[AgZ h2]
   repeat'(first|refine sC ?_|refine Ak rfl (by first|exact tt0|omega) ?_|(refine gC ?_;first|refine Aa (hst) (gk rfl) rfl rfl rfl (by rfl) rfl (by rfl) rfl ?_)|(refine Ax rfl ?_ ?_<;>intro h<;>have hq:=h<;>(try simp only[hqs] at hq))|(refine gD ?_;first|refine Ai rfl ?_|refine Ah rfl ?_|refine At rfl (by assumption) ?_|(refine Ay rfl ?_ ?_<;>intro h<;>have hq:=h<;>(try simp only[hqs] at hq)))|fail)
   all_goals first
    |(exfalso;omega)
    |skip
   all_goals
    refine Ao (Am (l:=[(8,.c (.ptr 8 0)),(9,AI 2)]) (b:=[(8,.box noM.cs)]) (fun n=>n) ?_ ?_ rfl (by rfl)) (AL Ab rfl rfl rfl rfl rfl rfl rfl)
    all_goals repeat'(first|exact tt0|refine⟨⟨_,rfl,?_⟩,?_⟩|exact .c .d|exact .c (.ptr rfl)|refine .box ?_|exact .nil|refine .cons ?_ ?_|exact .d|fail)
  ·rw[AgY h2];have d2:decide (CE<0)=false:=Agk (by omega);have d3:decide (4096<CE)=false:=Agk (by omega);by_cases h3:16384<m.slot+CE
   ·have d4:decide (16384<m.slot+CE)=true:=Agj h3;rw[AgZ h3]
    repeat'(first|refine sC ?_|refine Ak rfl (by first|exact tt0|omega) ?_|(refine gC ?_;first|refine Aa (hst) (gk rfl) rfl rfl rfl (by rfl) rfl (by rfl) rfl ?_)|refine Az rfl (by assumption) ?_|(refine gD ?_;first|refine Ai rfl ?_|refine Ah rfl ?_|refine At rfl (by assumption) ?_)|fail)
    refine Ao (Am (l:=[(8,.c (.ptr 8 0)),(9,AI 21)]) (b:=[(8,.box noM.cs)]) (fun n=>n) ?_ ?_ rfl (by rfl)) (AL Ab rfl rfl rfl rfl rfl rfl rfl)
    all_goals repeat'(first|exact tt0|refine⟨⟨_,rfl,?_⟩,?_⟩|exact .c .d|exact .c (.ptr rfl)|refine .box ?_|exact .nil|refine .cons ?_ ?_|exact .d|fail)
   ·have d4:decide (16384<m.slot+CE)=false:=Agk h3;rw[AgY h3]
    repeat'(first|refine sC ?_|refine Ak rfl (by first|exact tt0|omega) ?_|(refine gC ?_;first|refine Aa (hst) (gk rfl) rfl rfl rfl (by rfl) rfl (by rfl) rfl ?_)|refine Az rfl (by assumption) ?_|(refine gD ?_;first|refine Ah rfl ?_|refine At rfl (by assumption) ?_)|fail)
    refine AK (ι:=Nat) (fun k=>AS [(2,AD (lds loads)),(3,AD (sis sil)),(8,.c (.ptr 8 0)),(4,.c (.ptr 4 0)),(9,AI 0),(35,AI CE),(36,AI k)] [(4,.box (runN loads sil k m).cs),(8,.box noM.cs)]) (fun k=>(k:Int)<=CE) (fun k=>CE.toNat-k) 0 (by show(0:Int)<=CE;omega) ?_ ?_
    ·refine lg ?_ ?_ rfl (by rfl)
     all_goals repeat'(first|exact tt0|refine⟨⟨_,rfl,?_⟩,?_⟩|exact .c .d|exact .c (.ptr rfl)|exact .Bs rfl rfl|refine .box ?_|exact .nil|refine .cons ?_ ?_|exact .d|fail)
    ·intro k hk;obtain⟨r1,r2,_,_⟩:=Ed (loads:=loads) (sil:=sil) hm k (by omega);have hstep:=Uy (sil:=sil) r1 hl;by_cases hc:(k:Int)<CE
     ·have hd:decide ((k:Int)<CE)=true:=Agj hc
      repeat'(first|refine sC ?_|refine Ak rfl (by first|exact tt0|omega) ?_|(refine gC ?_;first|refine Aa (hstep) (gk rfl) rfl rfl rfl (by rfl) rfl (by rfl) rfl ?_)|(refine gD ?_;first|refine Ai rfl ?_|refine At rfl (by assumption) ?_)|fail)
      refine⟨k+1,by omega,by omega,?_⟩;show Le _ _ (AS [(2,AD (lds loads)),(3,AD (sis sil)),(8,.c (.ptr 8 0)),(4,.c (.ptr 4 0)),(9,AI 0),(35,AI CE),(36,AI ((k+1:Nat):Int))] [(4,.box (Cz (runN loads sil k m) loads sil).cs),(8,.box noM.cs)]);refine lg ?_ ?_ rfl (by rfl)
      all_goals repeat'(first|exact tt0|refine⟨⟨_,rfl,?_⟩,?_⟩|exact .c .d|exact .c (.ptr rfl)|exact .Bs rfl rfl|fail)
     ·have hd:decide ((k:Int)<CE)=false:=Agk hc;have hks:CE.toNat=k:=by omega
      rw[hks]
      repeat'(first|refine sB ?_|refine Ak rfl (by exact tt0) ?_|(refine gD ?_;first|refine Ah rfl ?_|refine At rfl (by assumption) ?_)|fail)
      refine Ao (Am (l:=[(8,.c (.ptr 8 0)),(9,AI 0)]) (b:=[(8,.box (runN loads sil k m).cs)]) (fun n=>n) ?_ ?_ rfl (by rfl)) (AL Ab rfl rfl rfl rfl rfl rfl rfl)
      all_goals repeat'(first|exact tt0|refine⟨⟨_,rfl,?_⟩,?_⟩|exact .c .d|exact .c (.ptr rfl)|exact .Bs rfl rfl|fail)
 ·have d1:decide (Da m loads sil≠0)=true:=Agj h;have e:SU m CE loads sil=(noM,Da m loads sil):=AgZ h;rw[e]
  repeat'(first|refine sC ?_|refine Ak rfl (by exact tt0) ?_|(refine gC ?_;first|refine Aa (hst) (gk rfl) rfl rfl rfl (by rfl) rfl (by rfl) rfl ?_)|(refine gD ?_;first|refine Ai rfl ?_|refine At rfl (by assumption) ?_)|fail)
  refine Ao (Am (l:=[(8,.c (.ptr 8 0)),(9,AI (Da m loads sil))]) (b:=[(8,.box noM.cs)]) (fun n=>n) ?_ ?_ rfl (by rfl)) (AL Ab rfl rfl rfl rfl rfl rfl rfl)
  all_goals repeat'(first|exact tt0|refine⟨⟨_,rfl,?_⟩,?_⟩|exact .c .d|exact .c (.ptr rfl)|refine .box ?_|exact .nil|refine .cons ?_ ?_|exact .d|fail)
end Go.Proofs.M
end
