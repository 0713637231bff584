/-
  Functions' results, and laws on them. No condition.
-/
import Derived.Test.YtdlcbilgemnomaaGreatSxMau
import Derived.Test.YtdlcbilgemnomaaGreatSxMav
set_option linter.unusedSimpArgs false
set_option linter.unusedVariables false
set_option maxHeartbeats 16000000
open Go.Proofs.Tryz
namespace Go.Proofs.M
open Go Go.Sx Go.Proofs Go.Proofs.T Go.Proofs.Q
open Go.Proofs.P (Nb nbs Rk rkA rkErr checkNb hearM countM forgetM select')
open Go.Proofs.R (startM advM)
def fK (m:Me) (loads:List Ld):Nat->List Ar->Wk->List Ar×Wk
 |0=>AeQ m.slot
 |1=>ZR m.slot loads
 |2=>AcK m.slot m.turns
 |4=>Xe m.slot
 |5=>AbT m.slot
 |6=>GA m.slot
 |_=>MW m.slot
def Mn (m:Me) (loads:List Ld) (sil:List Si) (k i:Nat) (A:List Ar×List Wk):List Ar×List Wk:=
 if k=3 then(A.1,Cv sil m.slot A.2 i) else((fK m loads k A.1 (A.2.getD i default)).1,A.2.set i (fK m loads k A.1 (A.2.getD i default)).2)
def Kp (m:Me) (loads:List Ld) (sil:List Si) (k:Nat) (A:List Ar×List Wk):Nat->List Ar×List Wk
 |0=>A
 |i+1=>Mn m loads sil k i (Kp m loads sil k A i)
def phK (m:Me) (loads:List Ld) (sil:List Si):Nat->List Ar×List Wk
 |0=>(m.arr,DI m)
 |k+1=>Kp m loads sil k (phK m loads sil k) m.nodes.length
theorem Og (F:List Ar->Wk->List Ar×Wk):∀(l:List Wk) (w:Wk) (arr:List Ar),BL F arr (l++[w])=((F (BL F arr l).1 w).1,(BL F arr l).2++[(F (BL F arr l).1 w).2])
 |[],_,_=>rfl
 |x :: l,w,arr=>by
  show BL F arr (x :: (l++[w]))=_;unfold BL;rw[Og F l w]
  rfl
theorem Q9 (F:List Ar->Wk->List Ar×Wk):∀(l:List Wk) (arr:List Ar),(BL F arr l).2.length=l.length
 |[],_=>rfl
 |x :: l,arr=>by
  unfold BL;simp[Q9 F l]
section
variable {m:Me} {loads:List Ld} {sil:List Si} {A:List Ar×List Wk}
theorem Zc {k:Nat} (hk:k≠3):∀i,i<=A.2.length->Kp m loads sil k A i=((BL (fK m loads k) A.1 (A.2.take i)).1,(BL (fK m loads k) A.1 (A.2.take i)).2++A.2.drop i)
 |0,_=>rfl
 |i+1,hi=>by
  have ih:=Zc (k:=k) hk i (by omega);have hlt:i<A.2.length:=by omega
  have hl:(BL (fK m loads k) A.1 (A.2.take i)).2.length=i:=by rw[Q9,AjD];omega
  show Mn m loads sil k i (Kp m loads sil k A i)=_;rw[ih];unfold Mn;rw[Akb hk];dsimp only;have e1:((BL (fK m loads k) A.1 (A.2.take i)).2++A.2.drop i).getD i default=A.2.getD i default:=by
   rw[Ajt,Ajt,AkE (by omega),hl,Ak2,AkI,AkX]
  have e2:A.2.take (i+1)=A.2.take i++[A.2.getD i default]:=by
   rw[Ak5,Ajt,AjC hlt];rfl
  have e3:A.2.drop i=A.2.getD i default :: A.2.drop (i+1):=by
   rw[Ajt,AjC hlt];exact AkV hlt
  rw[e1,e2,Og];refine congrArg (Prod.mk _) ?_
  conv=>lhs;rw[e3]
  rw[List.set_append_right _ _ (by omega),hl,Ak2,List.set_cons_zero,AjP];rfl
theorem AgH {k:Nat} (hk:k≠3):Kp m loads sil k A A.2.length=BL (fK m loads k) A.1 A.2:=by
 rw[Zc hk _ (Akd _),AkB,List.drop_length,AjQ]
theorem Rj:∀i,Kp m loads sil 3 A i=(A.1,Dc sil m.slot A.2 i)
 |0=>rfl
 |i+1=>by
  show Mn m loads sil 3 i (Kp m loads sil 3 A i)=_;rw[Rj i];rfl
theorem TG (X:List Wk) (i:Nat) (slot:Int):(Cv sil slot X i).length=X.length:=by
 unfold Cv
 split
 ·rfl
 ·split
  ·unfold DY;split<;>simp
  ·rfl
theorem YH {k i:Nat}:(Mn m loads sil k i A).2.length=A.2.length:=by
 unfold Mn
 split
 ·exact TG _ _ _
 ·simp
theorem Zd {k:Nat}:∀i,(Kp m loads sil k A i).2.length=A.2.length
 |0=>rfl
 |i+1=>by
  show(Mn m loads sil k i (Kp m loads sil k A i)).2.length=_;rw[YH,Zd i]
theorem Ko:∀k,(phK m loads sil k).2.length=m.nodes.length
 |0=>by show(DI m).length=_;simp[DI]
 |k+1=>by
  show(Kp m loads sil k (phK m loads sil k) m.nodes.length).2.length=_;rw[Zd,Ko k]
theorem G1 {k:Nat} (hk:k≠3):phK m loads sil (k+1)=BL (fK m loads k) (phK m loads sil k).1 (phK m loads sil k).2:=by
 show Kp m loads sil k (phK m loads sil k) m.nodes.length=_;have:=AgH (m:=m) (loads:=loads) (sil:=sil) (A:=phK m loads sil k) hk
 rwa [Ko] at this
end
theorem Aib (m:Me) (loads:List Ld) (sil:List Si):phK m loads sil 8=((Gs m loads sil).1,(BL (MW m.slot) [] (Gs m loads sil).2).2):=by
 have map1:∀(f:Wk->Wk) (arr:List Ar) (l:List Wk),BL (fun a w=>(a,f w)) arr l=(arr,l.map f):=fun f arr l=>EW f l arr
 have h1:phK m loads sil 1=(m.arr,(BL (AeQ m.slot) [] (DI m)).2):=by
  rw[G1 (by decide)];show BL (fun a w=>(a,{w with nd:=MX m.slot w.nd})) m.arr (DI m)=(m.arr,(BL (fun a w=>(a,{w with nd:=MX m.slot w.nd})) [] (DI m)).2);rw[map1,map1]
 have h2:phK m loads sil 2=(m.arr,(BL (ZR m.slot loads) [] (BL (AeQ m.slot) [] (DI m)).2).2):=by
  rw[G1 (by decide),h1];generalize (BL (AeQ m.slot) [] (DI m)).2=X;show BL (fun a w=>(a,{w with nd:=E9 m.slot w.node loads w.nd})) m.arr X=(m.arr,(BL (fun a w=>(a,{w with nd:=E9 m.slot w.node loads w.nd})) [] X).2);rw[map1,map1]
 have h3:phK m loads sil 3=(m.arr,Fh m loads):=by
  rw[G1 (by decide),h2];unfold Fh;generalize (BL (ZR m.slot loads) [] (BL (AeQ m.slot) [] (DI m)).2).2=X;show BL (fun a w=>(a,{w with nd:=(DS m.slot m.turns w.nd).1,ac:=(DS m.slot m.turns w.nd).2.1,bc:=w.bc||(DS m.slot m.turns w.nd).2.2})) m.arr X=(m.arr,(BL (fun a w=>(a,{w with nd:=(DS m.slot m.turns w.nd).1,ac:=(DS m.slot m.turns w.nd).2.1,bc:=w.bc||(DS m.slot m.turns w.nd).2.2})) [] X).2);rw[map1,map1]
 have h4:phK m loads sil 4=(m.arr,Hk m loads sil):=by
  show Kp m loads sil 3 (phK m loads sil 3) m.nodes.length=_;rw[h3,Rj];rfl
 have h5:phK m loads sil 5=(m.arr,(BL (Xe m.slot) [] (Hk m loads sil)).2):=by
  rw[G1 (by decide),h4];generalize Hk m loads sil=X;show BL (fun a w=>(a,Dh m.slot w)) m.arr X=(m.arr,(BL (fun a w=>(a,Dh m.slot w)) [] X).2);rw[map1,map1]
 have h6:phK m loads sil 6=(m.arr,(BL (AbT m.slot) [] (BL (Xe m.slot) [] (Hk m loads sil)).2).2):=by
  rw[G1 (by decide),h5];generalize (BL (Xe m.slot) [] (Hk m loads sil)).2=X;show BL (fun a w=>(a,En (Dm m.slot w))) m.arr X=(m.arr,(BL (fun a w=>(a,En (Dm m.slot w))) [] X).2);rw[map1,map1]
 have h7:phK m loads sil 7=Gs m loads sil:=by
  rw[G1 (by decide),h6];rfl
 rw[G1 (by decide),h7];generalize Gs m loads sil=Y;show BL (fun a w=>(a,{w with nd:=D0 m.slot w.nd})) Y.1 Y.2=(Y.1,(BL (fun a w=>(a,{w with nd:=D0 m.slot w.nd})) [] Y.2).2);rw[map1,map1]
theorem X3 (m:Me) (loads:List Ld) (sil:List Si):ID m loads sil=⟨(phK m loads sil 8).2.map (·.nd),m.slot+1,m.turns,(phK m loads sil 8).1⟩:=by
 rw[Aib];rfl
end Go.Proofs.M
namespace Go.Proofs.M
open Go Go.Sx Go.Proofs Go.Proofs.T Go.Proofs.Q
structure WOK (i:Nat) (w:Wk):Prop where
 nd:w.node=i
 ck:AU w.nd.st=0
 nx:0<=w.nd.next/\w.nd.next<=65535
structure IK (n lo:Nat) (A:List Ar×List Wk):Prop where
 ar:A.1.length<=4096
 len:A.2.length=n
 ok:∀j,lo<=j->j<n->WOK j (A.2.getD j default)
theorem Vl {slot:Int} {x:MN} {d:ByteArray} (h:AU x.st=0):AU (G8 slot x d).st=0:=by
 unfold G8
 split
 ·exact h
 ·split
  ·rename_i h0;exact(Yw h h0).1
  ·exact h
theorem Pn {slot i:Int}:∀(ls:List Ld) {x:MN},AU x.st=0->AU (E9 slot i ls x).st=0
 |[],_,h=>h
 |l :: ls,x,h=>by
  unfold E9
  split
  ·exact Pn ls (Vl h)
  ·exact Pn ls h
theorem Abh {s:Sta} (h:AU s=0):s.qu.Ab.length<=100000:=by
 have h2:=(Ba h).2.1;have:=YJ h2;have h3:=this.bnd;have h4:=this.len;omega
theorem WK (sil:List Si) (slot:Int) (X:List Wk) (i j:Nat):((Cv sil slot X i).getD j default).nd=(X.getD j default).nd/\((Cv sil slot X i).getD j default).node=(X.getD j default).node:=by
 have hset:∀(X:List Wk) (i:Nat) (A:Wk),A.nd=(X.getD i default).nd->A.node=(X.getD i default).node->∀j,((X.set i A).getD j default).nd=(X.getD j default).nd/\((X.set i A).getD j default).node=(X.getD j default).node:=by
  intro X i A h1 h2 j;by_cases hi:i<X.length
  ·rw[AcZ hi]
   split
   ·rename_i e;subst e;exact⟨h1,h2⟩
   ·exact⟨rfl,rfl⟩
  ·rw[List.set_eq_of_length_le (by omega)];exact⟨rfl,rfl⟩
 unfold Cv
 split
 ·exact⟨rfl,rfl⟩
 ·split
  ·rename_i q _;have g1:=hset X i {X.getD i default with rs:=ZE (PV (X.getD q default).ac)} rfl rfl;unfold DY
   split
   ·have g2:=hset (X.set i {X.getD i default with rs:=ZE (PV (X.getD q default).ac)}) q {X.getD q default with rs:={(X.getD q default).rs with AH:=true}} (g1 q).1.symm (g1 q).2.symm j;exact⟨g2.1.trans (g1 j).1,g2.2.trans (g1 j).2⟩
   ·exact g1 j
  ·exact⟨rfl,rfl⟩
section
variable {m:Me} {loads:List Ld} {sil:List Si} {A:List Ar×List Wk} {k i:Nat}
theorem Ait (hs:0<=m.slot/\m.slot<=109951162) (hk:k<7) (hk3:k≠3) {arr:List Ar} {w:Wk} (ha:arr.length<=4096) (h:WOK i w):(fK m loads k arr w).1.length<=4096/\WOK i (fK m loads k arr w).2:=by
 have hc:k=0\/k=1\/k=2\/k=4\/k=5\/k=6:=by omega
 rcases hc with rfl|rfl|rfl|rfl|rfl|rfl
 ·refine⟨ha,h.nd,?_,?_⟩
  ·show AU (MX m.slot w.nd).st=0;unfold MX
   split
   ·exact(Ud h.ck hs).2.1
   ·exact h.ck
  ·show 0<=(MX m.slot w.nd).next/\(MX m.slot w.nd).next<=65535;unfold MX
   split
   ·exact h.nx
   ·exact h.nx
 ·exact⟨ha,h.nd,Pn loads h.ck,HM loads h.nx⟩
 ·refine⟨ha,h.nd,?_,?_⟩
  ·show AU (DS m.slot m.turns w.nd).1.st=0;unfold DS
   split
   ·exact h.ck
   ·exact h.ck
  ·show 0<=(DS m.slot m.turns w.nd).1.next/\(DS m.slot m.turns w.nd).1.next<=65535;unfold DS
   split
   ·exact h.nx
   ·exact h.nx
 ·refine⟨ha,?_⟩;show WOK i (Dh m.slot w);unfold Dh
  split
  ·exact h
  ·split
   ·refine⟨h.nd,?_,h.nx⟩;have:=Ly w.rs h.ck hs;show AU (ED w.nd.st m.slot w.rs).1=0;rw[this.1];exact this.2.1
   ·exact h
 ·refine⟨ha,?_⟩;show WOK i (En (Dm m.slot w));have h1:WOK i (Dm m.slot w):=by
   unfold Dm
   split
   ·exact⟨h.nd,h.ck,h.nx⟩
   ·exact h
  generalize Dm m.slot w=v at h1 ⊢;unfold En
  split
  ·exact⟨h1.nd,h1.ck,h1.nx⟩
  ·exact h1
 ·show(GA m.slot arr w).1.length<=4096/\WOK i (GA m.slot arr w).2;unfold GA
  split
  ·exact⟨ha,h⟩
  ·split
   ·exact⟨ha,h.nd,Vl h.ck,Rx h.nx⟩
   ·exact⟨Ng ha,h⟩
theorem Agy {n:Nat} (hs:0<=m.slot/\m.slot<=109951162) (hk:k<7) (h:IK n 0 A) (hi:i<n):IK n 0 (Mn m loads sil k i A):=by
 by_cases h3:k=3
 ·subst h3;refine⟨h.ar,by rw[YH];exact h.len,fun j _ hj=>?_⟩;have e:=WK sil m.slot A.2 i j;have h0:=h.ok j (Ake _) hj;show WOK j ((Cv sil m.slot A.2 i).getD j default);exact⟨e.2.trans h0.nd,by rw[e.1];exact h0.ck,by rw[e.1];exact h0.nx⟩
 ·have h1:=Ait (loads:=loads) hs hk h3 h.ar (h.ok i (Ake _) hi);have e:Mn m loads sil k i A=((fK m loads k A.1 (A.2.getD i default)).1,A.2.set i (fK m loads k A.1 (A.2.getD i default)).2):=Akb h3;rw[e];refine⟨h1.1,by show(A.2.set _ _).length=n;rw[AjJ];exact h.len,fun j _ hj=>?_⟩;show WOK j ((A.2.set i (fK m loads k A.1 (A.2.getD i default)).2).getD j default);rw[AcZ (by rw[h.len];exact hi)]
  split
  ·rename_i e2;subst e2;exact h1.2
  ·exact h.ok j (Ake _) hj
theorem AeE {n:Nat} (hs:0<=m.slot/\m.slot<=109951162) (hk:k<7) (h:IK n 0 A):∀i,i<=n->IK n 0 (Kp m loads sil k A i)
 |0,_=>h
 |i+1,hi=>Agy hs hk (AeE hs hk h i (by omega)) (by omega)
theorem AcF {n:Nat} (h:IK n 0 A):∀i,i<=n->IK n i (Kp m loads sil 7 A i)
 |0,_=>h
 |i+1,hi=>by
  have ih:=AcF h i (by omega);generalize hB:Kp m loads sil 7 A i=B at ih;have e:Kp m loads sil 7 A (i+1)=(B.1,B.2.set i (MW m.slot B.1 (B.2.getD i default)).2):=by
   show Mn m loads sil 7 i (Kp m loads sil 7 A i)=_;rw[hB];exact Akb (by decide)
  rw[e];refine⟨ih.ar,by show(B.2.set _ _).length=n;rw[AjJ];exact ih.len,fun j h1 hj=>?_⟩;show WOK j ((B.2.set i _).getD j default);rw[AcZ (by rw[ih.len];omega),Akb (by omega)];exact ih.ok j (by omega) hj
theorem AcA (hs:0<=m.slot/\m.slot<=109951162) (h:IK m.nodes.length 0 (m.arr,DI m)):∀k,k<=7->IK m.nodes.length 0 (phK m loads sil k)
 |0,_=>h
 |k+1,hk=>AeE hs (by omega) (AcA hs h k (by omega)) _ (Akd _)
def gsF (k:Nat):FuncId:=87+k
theorem Ab6 {R:Nat->RI} {r0:RI} {l:List (Nat×AV)} {FY:List (Nat×Blk)} (hO:SB l FY) (hs:0<=m.slot/\m.slot<=109951162) (hn:m.nodes.length<=32) (hl:loads.length<=100000) (h0:IK m.nodes.length 0 (m.arr,DI m)) (hk:k<8) (hi:i<m.nodes.length):
  Aaw (gsF k) m.slot m.turns R m.nodes.length loads sil r0 l FY i (Kp m loads sil k (phK m loads sil k) i) (Kp m loads sil k (phK m loads sil k) (i+1)):=by
 have hA:=AcA (loads:=loads) (sil:=sil) hs h0 k (by omega);have hI:IK m.nodes.length (if k=7 then i else 0) (Kp m loads sil k (phK m loads sil k) i):=by
  by_cases h7:k=7
  ·subst h7;exact AcF hA i (by omega)
  ·rw[Akb h7];exact AeE hs (by omega) hA i (by omega)
 show Aaw (gsF k) m.slot m.turns R m.nodes.length loads sil r0 l FY i _ (Mn m loads sil k i (Kp m loads sil k (phK m loads sil k) i));generalize Kp m loads sil k (phK m loads sil k) i=B at hI ⊢;have hlen:=hI.len;have hw:=hI.ok i (by split<;>omega) hi;have hB64:B.2.length<=64:=by omega
 have hiB:i<B.2.length:=by omega
 rw[<-hlen];have hc:k=0\/k=1\/k=2\/k=3\/k=4\/k=5\/k=6\/k=7:=by omega
 rcases hc with rfl|rfl|rfl|rfl|rfl|rfl|rfl|rfl
 ·intro E a w ρ Im hsat;exact Jl hO hB64 hiB (YE m.slot m.turns (Ee R B.2.length) loads sil B.1 (B.2.getD i default)).toG hsat
 ·intro E a w ρ Im hsat;exact Jl hO hB64 hiB (Ww m.slot m.turns (Ee R B.2.length) loads sil B.1 (B.2.getD i default) hw.nx (by rw[hw.nd];omega) hl).toG hsat
 ·intro E a w ρ Im hsat;exact Jl hO hB64 hiB (YF m.slot m.turns (Ee R B.2.length) loads sil B.1 (B.2.getD i default) hs).toG hsat
 ·intro E a w ρ Im hsat;exact RZ hO hB64 hiB hsat
 ·intro E a w ρ Im hsat;exact Jl hO hB64 hiB (Wy m.slot m.turns (Ee R B.2.length) loads sil B.1 (B.2.getD i default)).toG hsat
 ·intro E a w ρ Im hsat;exact Jl hO hB64 hiB (Wu m.slot m.turns (Ee R B.2.length) loads sil B.1 (B.2.getD i default)).toG hsat
 ·intro E a w ρ Im hsat;exact Jl hO hB64 hiB (YD m.slot m.turns (Ee R B.2.length) loads sil B.1 (B.2.getD i default) hw.nx hI.ar) hsat
 ·intro E a w ρ Im hsat;exact Jl hO hB64 hiB (QQ m.slot m.turns (Ee R B.2.length) loads sil B.1 (B.2.getD i default) (Abh hw.ck)).toG hsat
theorem W5 {k:Nat} (hk:k<8):Enters Tryz.prog (gsF k):=by
 have hc:k=0\/k=1\/k=2\/k=3\/k=4\/k=5\/k=6\/k=7:=by omega
 rcases hc with rfl|rfl|rfl|rfl|rfl|rfl|rfl|rfl
 ·exact enters_of func87 (by kernel_rfl) rfl
 ·exact enters_of func88 (by kernel_rfl) rfl
 ·exact enters_of func89 (by kernel_rfl) rfl
 ·exact enters_of func90 (by kernel_rfl) rfl
 ·exact enters_of func91 (by kernel_rfl) rfl
 ·exact enters_of func92 (by kernel_rfl) rfl
 ·exact enters_of func93 (by kernel_rfl) rfl
 ·exact enters_of func94 (by kernel_rfl) rfl
end
end Go.Proofs.M
namespace Go.Proofs.M
open Go Go.Sx Go.RowKit Go.Proofs Go.Proofs.T Go.Proofs.Q
set_option maxRecDepth 4000
attribute [local irreducible] VR VC thenQ blockQ retL VX
theorem Ahw {m:Me} {l:List (Nat×AV)} (h:∀p∈l,p.2.shallow=true/\∀n∈p.2.names,n=100\/n=3\/n=6):SB l [(3,.box m.cs),(6,.box (Me.cs ⟨[],0,0,[]⟩))]:=by
 refine⟨fun p hp=>?_,fun p hp=>?_,fun p hp=>⟨(h p hp).1,fun n hn=>?_⟩⟩
 ·simp only[AjO,AjB,or_false] at hp;rcases hp with rfl|rfl<;>simp
 ·simp only[AjO,AjB,or_false] at hp;rcases hp with rfl|rfl<;>simp[Blk.names,Me.cs,C.names]
 ·have:=(h p hp).2 n hn;simpa using this
theorem Aik {E:Env Tryz.prog 116} {σ:St} {m:Me} {loads:List Ld} {sil:List Si} {R:Nat->RI} {r0:RI} (hS:∀b,¬E.S0 b) (hn:m.nodes.length<=32)
  (s3:σ (.s 3)=some (.v (.c (.ptr 3 0)))) (s6:σ (.s 6)=some (.v (.c (.ptr 6 0)))) (s7:σ (.s 7)=some (.v (.c (.ptr 100 0))))
  (h100:σ (.b 100)=some (.k (.box [.d (.int .i64 m.slot),.d (.int .i64 m.turns),.row 103 (GZ R m.nodes.length).length,.d (lds loads),.d (sis sil),.row 102 m.arr.length]))) (h102:σ (.b 102)=some (.k (.row 62 3 (rowOf Ar.enc m.arr))))
  (h103:σ (.b 103)=some (.k (.row 136 1 (rowOf Ot (GZ R m.nodes.length))))) (h3:σ (.b 3)=some (.k (.box m.cs))) (h6:σ (.b 6)=some (.k (.box (Me.cs ⟨[],0,0,[]⟩)))) (hpn:σ (.b 9100)=some (.k (.pin 100 r0)))
  (hfam:∀j,j<m.nodes.length->σ (.b (8000+j))=some (.k (.box ((Sy m m.nodes.length).getD j default).cs))) (hpin:∀j,j<m.nodes.length->σ (.b (20000+j))=some (.k (.pin (8000+j) (R j)))):
  Le E σ (lsS [(3,.c (.ptr 3 0)),(6,.c (.ptr 6 0)),(7,.c (.ptr 100 0))] (fxS m.slot m.turns R m.nodes.length loads sil m.arr r0++[(3,.box m.cs),(6,.box (Me.cs ⟨[],0,0,[]⟩))]) R (DI m)):=by
 have hO:SB [(3,.c (.ptr 3 0)),(6,.c (.ptr 6 0)),(7,.c (.ptr 100 0))] [(3,.box m.cs),(6,.box (Me.cs ⟨[],0,0,[]⟩))]:=Ahw (m:=m) (by
  intro p hp;simp only[AjO,AjB,or_false] at hp;rcases hp with rfl|rfl|rfl<;>refine⟨rfl,fun n hn=>?_⟩<;>simp only[AV.names,AV.CE,C.names,AjO,AjB,or_false] at hn<;>omega)
 have hlen:(DI m).length=m.nodes.length:=by simp[DI]
 rw[show(GZ R m.nodes.length).length=m.nodes.length by simp[GZ]] at h100;have key:∀n,(As (Ef (fxS m.slot m.turns R m.nodes.length loads sil m.arr r0++[(3,.box m.cs),(6,.box (Me.cs ⟨[],0,0,[]⟩))]) R ((DI m).map Wk.cs)) n).isSome=true->n≠103:=fun n h=>by
  obtain⟨b,hb⟩:=Akk.1 h;rcases B1 hb with h|⟨j,hj,rfl,_⟩|⟨j,hj,rfl,_⟩
  ·rcases Ga hO h with⟨rfl,_⟩|⟨rfl,_⟩|⟨rfl,_⟩|⟨_,h⟩<;>omega
  ·omega
  ·omega
 refine Y8 (fun n=>n) [103] hS ⟨⟨_,s3,.c (.ptr rfl)⟩,⟨_,s6,.c (.ptr rfl)⟩,⟨_,s7,.c (.ptr rfl)⟩,tt0⟩ (fun n x hx=>?_) (fun n1 n2 _ _ h=>h) (fun n h q hq=>by rw[AjI] at hq;rw[hq];exact key n h) ?_
 ·rcases B1 hx with h|⟨j,hj,rfl,rfl⟩|⟨j,hj,rfl,rfl⟩
  ·rcases Ga hO h with⟨rfl,rfl⟩|⟨rfl,rfl⟩|⟨rfl,rfl⟩|⟨h,_⟩
   ·refine⟨_,h100,.box (.cons .d (.cons .d (.cons (.frz (n:=m.nodes.length) (AjI.2 rfl) h103 (by simp[GZ,rowOf]) (fun i x hi hx j hj=>?_)) (.cons .d (.cons .d (.cons (.row rfl rfl) .nil))))))⟩;have hj:j=0:=by omega
    subst hj;have e:x=[.d (.raw (pvo (R i).blk 0))]:=by
     simp[rowOf,GZ,Ot,hi] at hx;exact hx.symm
    rw[e];rfl
   ·exact⟨_,h102,.CJ rfl Ai⟩
   ·exact⟨_,hpn,.pin rfl⟩
   ·have hm:=AP h;simp only[AjO,AjB,or_false,AkR] at hm;rcases hm with⟨rfl,rfl⟩|⟨rfl,rfl⟩
    ·exact⟨_,h3,.FA rfl rfl⟩
    ·exact⟨_,h6,.FA rfl rfl⟩
  ·rw[AjK,hlen] at hj;rw[Js (by rw[hlen];exact hj)];exact⟨_,hfam j hj,.FA rfl rfl⟩
  ·rw[AjK,hlen] at hj;exact⟨_,hpin j hj,.pin rfl⟩
 ·exact T0 hO (by omega)
def fnD (r0:RI):D:=.rd 8 1 fun k _=>.raw (fnV (gsF k) r0)
theorem Lt {E:Env Tryz.prog 116} {σ:St} {slot turns:Int} {R:Nat->RI} {nn:Nat} {loads:List Ld} {sil:List Si} {arr:List Ar} {r0:RI} {l l':List (Nat×AV)} {FY:List (Nat×Blk)} {X:List Wk} (hO:SB l' FY) (hX:X.length<=64)
  (hb:∀n,σ (.b n)=lsS l (fxS slot turns R nn loads sil arr r0++FY) R X (.b n)) (hs:∀p∈l',σ (.s p.1)=some (.v p.2)):Le E σ (lsS l' (fxS slot turns R nn loads sil arr r0++FY) R X):=by
 rintro a w ⟨ρ,Im,h⟩;refine⟨ρ,Im,h.sub (fun k it hk=>?_) (Ry hO hX)⟩;cases k with
 |s t=>
  have hk:(As l' t).map Sx.Item.v=some it:=hk;rw[Akh] at hk;obtain⟨y,hy,rfl⟩:=hk;exact hs _ (AP hy)
 |b n=>rw[hb];exact hk
theorem Aij {E:Env Tryz.prog 116} {σ:St} {m:Me} {loads:List Ld} {sil:List Si} {R:Nat->RI} {r0:RI} {k:Nat} {A:List Ar×List Wk} (hS:∀b,¬E.S0 b) (hn:m.nodes.length<=32) (hO:SB [(3,.c (.ptr 3 0)),(6,.c (.ptr 6 0)),(7,.c (.ptr 100 0)),(66,AD (fnD r0)),(67,AI 8),(68,AI (k:Int))] [(3,.box m.cs),(6,.box (Me.cs ⟨[],0,0,[]⟩))]) (hlen:A.2.length=m.nodes.length)
  (s3:σ (.s 3)=some (.v (.c (.ptr 3 0)))) (s6:σ (.s 6)=some (.v (.c (.ptr 6 0)))) (s7:σ (.s 7)=some (.v (.c (.ptr 100 0)))) (s66:σ (.s 66)=some (.v (.c (.row 66 8)))) (s67:σ (.s 67)=some (.v (AI 8))) (s68:σ (.s 68)=some (.v (AI (k:Int))))
  (h66:σ (.b 66)=some (.k (.row 147 1 [[PI (gsF 0) r0 0],[PI (gsF 1) r0 0],[PI (gsF 2) r0 0],[PI (gsF 3) r0 0],[PI (gsF 4) r0 0],[PI (gsF 5) r0 0],[PI (gsF 6) r0 0],[PI (gsF 7) r0 0]])))
  (hblk:∀n b,n≠66->As (Ef (fxS m.slot m.turns R m.nodes.length loads sil A.1 r0++[(3,.box m.cs),(6,.box (Me.cs ⟨[],0,0,[]⟩))]) R (A.2.map Wk.cs)) n=some b->σ (.b n)=some (.k b)):
  Le E σ (lsS [(3,.c (.ptr 3 0)),(6,.c (.ptr 6 0)),(7,.c (.ptr 100 0)),(66,AD (fnD r0)),(67,AI 8),(68,AI (k:Int))] (fxS m.slot m.turns R m.nodes.length loads sil A.1 r0++[(3,.box m.cs),(6,.box (Me.cs ⟨[],0,0,[]⟩))]) R A.2):=by
 have key:∀n,(As (Ef (fxS m.slot m.turns R m.nodes.length loads sil A.1 r0++[(3,.box m.cs),(6,.box (Me.cs ⟨[],0,0,[]⟩))]) R (A.2.map Wk.cs)) n).isSome=true->n≠66:=fun n h=>by
  obtain⟨b,hb⟩:=Akk.1 h;rcases B1 hb with h|⟨j,hj,rfl,_⟩|⟨j,hj,rfl,_⟩
  ·rcases Ga hO h with⟨rfl,_⟩|⟨rfl,_⟩|⟨rfl,_⟩|⟨h,_⟩
   ·omega
   ·omega
   ·omega
   ·have hm:=AP h;simp only[AjO,AjB,or_false,AkR] at hm;rcases hm with⟨rfl,rfl⟩|⟨rfl,rfl⟩<;>omega
  ·omega
  ·omega
 refine Y8 (fun n=>n) [66] hS ⟨⟨_,s3,.c (.ptr rfl)⟩,⟨_,s6,.c (.ptr rfl)⟩,⟨_,s7,.c (.ptr rfl)⟩,⟨_,s66,.c (.frz (n:=8) (AjI.2 rfl) h66 (Akd _) (fun i x hi hx j hj=>?_))⟩,⟨_,s67,.c .d⟩,⟨_,s68,.c .d⟩,tt0⟩ (fun n x hx=>?_) (fun n1 n2 _ _ h=>h) (fun n h q hq=>by rw[AjI] at hq;rw[hq];exact key n h) (T0 hO (by omega))
 ·have hj:j=0:=by omega
  subst hj;have hc:i=0\/i=1\/i=2\/i=3\/i=4\/i=5\/i=6\/i=7:=by omega
  rcases hc with rfl|rfl|rfl|rfl|rfl|rfl|rfl|rfl<;>(injection hx with hx;subst hx;rfl)
 ·refine⟨_,hblk n x (key n (by rw[hx];rfl)) hx,?_⟩;rcases B1 hx with h|⟨j,hj,rfl,rfl⟩|⟨j,hj,rfl,rfl⟩
  ·rcases Ga hO h with⟨rfl,rfl⟩|⟨rfl,rfl⟩|⟨rfl,rfl⟩|⟨h,_⟩
   ·exact .box (CWs.E7 _)
   ·exact .CJ rfl Ai
   ·exact .pin rfl
   ·have hm:=AP h;simp only[AjO,AjB,or_false,AkR] at hm;rcases hm with⟨rfl,rfl⟩|⟨rfl,rfl⟩
    ·exact .FA rfl rfl
    ·exact .FA rfl rfl
  ·exact .box (CWs.E7 _)
  ·exact .pin rfl
theorem X1 (m:Me) (loads:List Ld) (sil:List Si) (hal:m.arr.length<=100000) (hn32:m.nodes.length<=32) (hsl:0<=m.slot/\m.slot<=109951162) (hll:loads.length<=100000) (hik:IK m.nodes.length 0 (m.arr,DI m)):Ak 55 [meA m,AD (lds loads),AD (sis sil)] (meA (ID m loads sil)):=by
 refine Ao func55 ntmps55 results55 fun E hS=>?_
 repeat'(first|refine AJ ?_|refine Aa (Ab4 m.arr hal) ?_|(show VC _ (.seq (.region _ _ _) _) _ _;refine Dw ?_)|fail)
 refine VC.le (Gf (bx:=27) (nm:=103) (T:=136) (sz:=1) (j:=2) rfl rfl rfl) ?_;refine VC.le (σ':=AN [(3,.c (.ptr 3 0)),(6,.c (.ptr 6 0)),(7,.c (.ptr 100 0))] [(100,.box [.d (.int .i64 m.slot),.d (.int .i64 m.turns),.row 103 0,.d (lds loads),.d (sis sil),.row 102 m.arr.length]),(102,.row 62 3 (rowOf Ar.enc m.arr)),(103,.row 136 1 (rowOf Ot [])),(3,.box m.cs),(6,.box (Me.cs ⟨[],0,0,[]⟩))]) ?_ ?_
 ·exact BF (fun n=>if n=100 then 27 else if n=102 then 25007 else n)
 repeat'(first|refine Af ?_|fail)
 refine Ax (ι:=Nat×(Nat->RI)) (fun p=>lsS [(3,.c (.ptr 3 0)),(6,.c (.ptr 6 0)),(7,.c (.ptr 100 0)),(29,AD (mns m.nodes)),(30,AI m.nodes.length),(31,AI (p.1:Int))] (fx0 m loads sil p.2 p.1) p.2 (Sy m p.1)) (fun p=>p.1<=m.nodes.length) (fun p=>m.nodes.length-p.1) (0,fun _=>⟨0,0,false⟩) (Ake _) ?_ ?_
 ·refine Hl Is (Ake _) ⟨⟨_,rfl,.c (.ptr rfl)⟩,⟨_,rfl,.c (.ptr rfl)⟩,⟨_,rfl,.c (.ptr rfl)⟩,⟨_,rfl,.c .d⟩,⟨_,rfl,.c .d⟩,⟨_,rfl,.c .d⟩,tt0⟩ ⟨⟨_,rfl,.box (CWs.E7 _)⟩,⟨_,rfl,.row (AaD.E7 _)⟩,⟨_,rfl,.row (AaD.E7 _)⟩,⟨_,rfl,.box (CWs.E7 _)⟩,⟨_,rfl,.box (CWs.E7 _)⟩,tt0⟩ (fun j hj=>absurd hj (Aj9 _)) (fun j hj=>absurd hj (Aj9 _)) ?_ Rz;intro p hp;simp only[AjO,AjB,or_false] at hp;rcases hp with rfl|rfl|rfl|rfl|rfl|rfl<;>refine⟨rfl,fun n hn=>?_⟩<;>simp only[AV.names,AV.CE,C.names,AjO,AjB,or_false] at hn<;>subst hn<;>rfl
 ·rintro⟨k,R⟩ hk;have hk:k<=m.nodes.length:=hk;dsimp only;have hpl:(GZ R k).length=k:=by simp[GZ]
  have hgk:(Sy m k).length=k:=MH;have hgl:(Sy m k).length<=100:=by omega
  by_cases hc:k<m.nodes.length
  ·have hd:=Cz k m.nodes.length;rw[DX hgl]
   repeat'(first|refine HX ?_|refine Ap ?_|refine sq 6 rfl ?_|((fail_if_success (show VC _ (.region 6 _ _) _ _));first|refine ER ?_|refine LP ?_)|refine BN ?_|fail)
   refine Acr (nm:=44) (pn:=9044) ?_ ?_ fun r=>?_
   ·intro h;have h:(some _:Option Sx.Item)=none:=h;cases h
   ·rfl
   repeat'(first|refine AJ ?_|fail)
   refine⟨(k+1,NG R k r),?_,?_,?_⟩
   ·show k+1<=_;omega
   ·show m.nodes.length-(k+1)<m.nodes.length-k;omega
   refine Le.tr (Aby (q:=46) (T:=136) (xs:=rowOf Ot (GZ R k)) (nm:=44) (off:=0) (pn:=9044) (r:=r) ?_ ?_) (AgF (by omega) ?_ ?_ ?_ ?_ ?_ ?_ ?_ ?_ ?_ ?_ ?_ ?_ ?_ ?_ ?_)
   all_goals first|rfl|skip
   ·intro j hj;simp(disch:=omega) only [St.Cl,OU,HA,E5];rw[<-DX hgl];exact Mw Is (X:=Sy m k) (j:=j) (by omega) (by omega)
   ·intro j hj;simp(disch:=omega) only [St.Cl,OU,HA,E5];rw[<-DX hgl];exact Of Is (X:=Sy m k) (j:=j) (by omega) (by omega)
  ·have hd:=CM k m.nodes.length;rw[DX hgl]
   repeat'(first|refine HX ?_|refine sq 7 rfl ?_|((fail_if_success (show VC _ (.region 7 _ _) _ _));refine ER ?_)|fail)
   have hkn:k=m.nodes.length:=by omega
   subst hkn;refine Acr (nm:=100) (pn:=9100) ?_ ?_ fun r0=>?_
   ·intro h;have h:(some _:Option Sx.Item)=none:=h;cases h
   ·rfl
   refine VC.le (σ':=lsS [(3,.c (.ptr 3 0)),(6,.c (.ptr 6 0)),(7,.c (.ptr 100 0))] (fxS m.slot m.turns R m.nodes.length loads sil m.arr r0++[(3,.box m.cs),(6,.box (Me.cs ⟨[],0,0,[]⟩))]) R (DI m)) ?_ ?_
   ·refine Aik hS hn32 ?_ ?_ ?_ ?_ ?_ ?_ ?_ ?_ ?_ ?_ ?_
    all_goals first|rfl|skip
    ·intro j hj;simp(disch:=omega) only [St.Cl,OU,HA,E5];rw[<-DX hgl];exact Mw Is (X:=Sy m m.nodes.length) (by omega) (by omega)
    ·intro j hj;simp(disch:=omega) only [St.Cl,OU,HA,E5];rw[<-DX hgl];exact Of Is (X:=Sy m m.nodes.length) (by omega) (by omega)
   have hw100:(DI m).length<=100:=by simp[DI];omega
   rw[DX hw100]
   repeat'(first|refine Af ?_|refine Qa (pn:=9100) (gk rfl) rfl rfl rfl ?_|refine AQ ?_|fail)
   have hO2:∀k:Nat,SB [(3,.c (.ptr 3 0)),(6,.c (.ptr 6 0)),(7,.c (.ptr 100 0)),(66,AD (fnD r0)),(67,AI 8),(68,AI (k:Int))] [(3,.box m.cs),(6,.box (Me.cs ⟨[],0,0,[]⟩))]:=fun k=>Ahw (m:=m) (by intro p hp;simp only[AjO,AjB,or_false] at hp;rcases hp with rfl|rfl|rfl|rfl|rfl|rfl|rfl|rfl|rfl|rfl|rfl<;>refine⟨rfl,fun n hn=>?_⟩<;>simp only[AV.names,AV.CE,C.names,AjO,AjB,or_false] at hn<;>omega)
   refine Er 8 (fun k=>lsS [(3,.c (.ptr 3 0)),(6,.c (.ptr 6 0)),(7,.c (.ptr 100 0)),(66,AD (fnD r0)),(67,AI 8),(68,AI (k:Int))] (fxS m.slot m.turns R m.nodes.length loads sil (phK m loads sil k).1 r0++[(3,.box m.cs),(6,.box (Me.cs ⟨[],0,0,[]⟩))]) R (phK m loads sil k).2) ?_ ?_
   ·refine Aij (k:=0) (A:=phK m loads sil 0) hS hn32 (hO2 0) (Ko 0) ?_ ?_ ?_ ?_ ?_ ?_ ?_ ?_
    all_goals first|rfl|skip
    intro n b hn66 hb;simp(disch:=omega) only [St.Cl,OU,HA,E5];rw[<-DX hw100];exact JN hb
   ·intro k hk;have hO3:∀i:Nat,SB [(3,.c (.ptr 3 0)),(6,.c (.ptr 6 0)),(7,.c (.ptr 100 0)),(66,AD (fnD r0)),(67,AI 8),(68,AI (k:Int)),(11,AD (.raw (fnV (gsF k) r0))),(75,AD (Ee R m.nodes.length)),(76,AI m.nodes.length),(77,AI (i:Int))] [(3,.box m.cs),(6,.box (Me.cs ⟨[],0,0,[]⟩))]:=fun i=>Ahw (m:=m) (by intro p hp;simp only[AjO,AjB,or_false] at hp;rcases hp with rfl|rfl|rfl|rfl|rfl|rfl|rfl|rfl|rfl|rfl|rfl<;>refine⟨rfl,fun n hn=>?_⟩<;>simp only[AV.names,AV.CE,C.names,AjO,AjB,or_false] at hn<;>omega)
    have hO4:∀i:Nat,SB [(3,.c (.ptr 3 0)),(6,.c (.ptr 6 0)),(7,.c (.ptr 100 0)),(66,AD (fnD r0)),(67,AI 8),(68,AI (k:Int)),(11,AD (.raw (fnV (gsF k) r0))),(13,AD (.raw (pvo (R i).blk 0))),(75,AD (Ee R m.nodes.length)),(76,AI m.nodes.length),(77,AI (i:Int))] [(3,.box m.cs),(6,.box (Me.cs ⟨[],0,0,[]⟩))]:=fun i=>Ahw (m:=m) (by intro p hp;simp only[AjO,AjB,or_false] at hp;rcases hp with rfl|rfl|rfl|rfl|rfl|rfl|rfl|rfl|rfl|rfl|rfl<;>refine⟨rfl,fun n hn=>?_⟩<;>simp only[AV.names,AV.CE,C.names,AjO,AjB,or_false] at hn<;>omega)
    have h64:∀k,(phK m loads sil k).2.length<=64:=fun k=>by rw[Ko];omega
    have h64i:∀k i,(Kp m loads sil k (phK m loads sil k) i).2.length<=64:=fun k i=>by rw[Zd,Ko];omega
    by_cases hc8:k<8
    ·have hd:=Es ((k:Int)<8)
     repeat'(first|refine Af ?_|fail)
     refine Er m.nodes.length (fun i=>lsS [(3,.c (.ptr 3 0)),(6,.c (.ptr 6 0)),(7,.c (.ptr 100 0)),(66,AD (fnD r0)),(67,AI 8),(68,AI (k:Int)),(11,AD (.raw (fnV (gsF k) r0))),(75,AD (Ee R m.nodes.length)),(76,AI m.nodes.length),(77,AI (i:Int))] (fxS m.slot m.turns R m.nodes.length loads sil (Kp m loads sil k (phK m loads sil k) i).1 r0++[(3,.box m.cs),(6,.box (Me.cs ⟨[],0,0,[]⟩))]) R (Kp m loads sil k (phK m loads sil k) i).2) ?_ ?_
     ·exact Lt (l:=[]) (hO3 0) (h64 k) (fun n=>rfl) (by intro p hp;simp only[AjO,AjB,or_false] at hp;rcases hp with rfl|rfl|rfl|rfl|rfl|rfl|rfl|rfl|rfl|rfl|rfl<;>rfl)
     ·intro i hi;by_cases hci:i<m.nodes.length
      ·have hdi:=Cz i m.nodes.length
       repeat'(first|refine HX ?_|refine sq 13 rfl ?_|((fail_if_success (show VC _ (.region 13 _ _) _ _));refine ER ?_)|refine BN ?_|fail)
       refine VC.le (σ':=lsS [(3,.c (.ptr 3 0)),(6,.c (.ptr 6 0)),(7,.c (.ptr 100 0)),(66,AD (fnD r0)),(67,AI 8),(68,AI (k:Int)),(11,AD (.raw (fnV (gsF k) r0))),(13,AD (.raw (pvo (R i).blk 0))),(75,AD (Ee R m.nodes.length)),(76,AI m.nodes.length),(77,AI (i:Int))] (fxS m.slot m.turns R m.nodes.length loads sil (Kp m loads sil k (phK m loads sil k) i).1 r0++[(3,.box m.cs),(6,.box (Me.cs ⟨[],0,0,[]⟩))]) R (Kp m loads sil k (phK m loads sil k) i).2) (Lt (l:=[]) (hO4 i) (h64i k i) (fun n=>rfl) (by intro p hp;simp only[AjO,AjB,or_false] at hp;rcases hp with rfl|rfl|rfl|rfl|rfl|rfl|rfl|rfl|rfl|rfl|rfl<;>rfl)) ?_;refine Um (hO4 i) (h64i k i) (h64i k (i+1)) rfl rfl rfl rfl rfl (W5 hc8) (Ab6 (hO4 i) hsl hn32 hll hik hc8 hci) ?_ ?_
       ·intro σ h
        repeat (first|replace h:=Ql h|replace h:=Xq h)
        rcases h.1 with h|h<;>cases h
       repeat'(first|refine AJ ?_|fail)
       refine BU (i+1) ?_;exact Lt (l:=[]) (hO3 (i+1)) (h64i k (i+1)) (fun n=>rfl) (by intro p hp;simp only[AjO,AjB,or_false] at hp;rcases hp with rfl|rfl|rfl|rfl|rfl|rfl|rfl|rfl|rfl|rfl|rfl<;>rfl)
      ·have hdi:=CM i m.nodes.length;have hin:i=m.nodes.length:=by omega
       subst hin
       repeat'(first|refine Ad ?_|fail)
       refine BU (k+1) ?_;exact Lt (l:=[]) (hO2 (k+1)) (h64 (k+1)) (fun n=>rfl) (by intro p hp;simp only[AjO,AjB,or_false] at hp;rcases hp with rfl|rfl|rfl|rfl|rfl|rfl|rfl|rfl|rfl|rfl|rfl<;>rfl)
    ·have hd:=Cc ((k:Int)<8);have hk8:k=8:=by omega
     subst hk8;have hlA:(phK m loads sil 8).2.length=m.nodes.length:=Ko 8;rw[X3];generalize phK m loads sil 8=A at hlA ⊢;have hA64:A.2.length<=64:=by omega
     rw[DX (by omega)]
     repeat'(first|refine Af ?_|fail)
     refine VC.le (Gf (bx:=14) (nm:=104) (T:=45) (sz:=22) (j:=0) rfl rfl rfl) ?_;refine Er m.nodes.length (fun i=>lsS [(6,.c (.ptr 6 0)),(14,.c (.ptr 14 0)),(99,AD (Ee R m.nodes.length)),(100,AI m.nodes.length),(101,AI (i:Int))] (fx6 m A i) R A.2) ?_ ?_
     ·refine Hl EK hA64 ⟨⟨_,rfl,.c (.ptr rfl)⟩,⟨_,rfl,.c (.ptr rfl)⟩,⟨_,rfl,.c .d⟩,⟨_,rfl,.c .d⟩,⟨_,rfl,.c .d⟩,tt0⟩ ⟨⟨_,rfl,.box (CWs.E7 _)⟩,⟨_,rfl,.row (AaD.E7 _)⟩,⟨_,rfl,.row (AaD.E7 _)⟩,⟨_,rfl,.box (CWs.E7 _)⟩,tt0⟩ (fun j hj=>?_) (fun j hj=>?_) ?_ MI
      ·simp(disch:=omega) only [St.Cl,OU,HA,E5];rw[<-DX (by omega)];exact Mw (JT (hO2 8)) hA64 hj
      ·simp(disch:=omega) only [St.Cl,OU,HA,E5];rw[<-DX (by omega)];exact Of (JT (hO2 8)) hA64 hj
      ·intro p hp;simp only[AjO,AjB,or_false] at hp;rcases hp with rfl|rfl|rfl|rfl|rfl<;>refine⟨rfl,fun n hn=>?_⟩<;>simp only[AV.names,AV.CE,C.names,AjO,AjB,or_false] at hn<;>subst hn<;>rfl
     ·intro i hi;by_cases hci:i<m.nodes.length
      ·have hdi:=Cz i m.nodes.length;have hol:(Ss A i).length=i:=Aej (by omega)
       repeat'(first|refine HX ?_|refine sq 20 rfl ?_|((fail_if_success (show VC _ (.region 20 _ _) _ _));refine ER ?_)|refine BN ?_|fail)
       refine VC.le (Rf (s:=16) (nm:=8000+i) (pn:=20000+i) (r:=R i) (off:=0) rfl (Of (l:=[]) EK hA64 (by omega))) ?_;refine VC.le (σ':=lsS [(16,.c (.ptr (8000+i) 0)),(6,.c (.ptr 6 0)),(14,.c (.ptr 14 0)),(99,AD (Ee R m.nodes.length)),(100,AI m.nodes.length),(101,AI (i:Int))] (fx6 m A i) R A.2) ?_ ?_
       ·refine Hl EK hA64 ⟨⟨_,rfl,.c (.ptr rfl)⟩,⟨_,rfl,.c (.ptr rfl)⟩,⟨_,rfl,.c (.ptr rfl)⟩,⟨_,rfl,.c .d⟩,⟨_,rfl,.c .d⟩,⟨_,rfl,.c .d⟩,tt0⟩ ⟨⟨_,rfl,.box (CWs.E7 _)⟩,⟨_,rfl,.row (AaD.E7 _)⟩,⟨_,rfl,.row (AaD.E7 _)⟩,⟨_,rfl,.box (CWs.E7 _)⟩,tt0⟩ (fun j hj=>Mw (l:=[]) EK hA64 hj) (fun j hj=>Of (l:=[]) EK hA64 hj) ?_ MI;have hxi:=Oh (R:=R) (FX:=fx6 m A i) EK hA64 (show i<A.2.length by omega);intro p hp;simp only[AjO,AjB,or_false] at hp;rcases hp with rfl|rfl|rfl|rfl|rfl|rfl<;>refine⟨rfl,fun n hn=>?_⟩<;>simp only[AV.names,AV.CE,C.names,AjO,AjB,or_false] at hn<;>subst hn<;>first|rfl|exact hxi
       have hbx:stX [] (fx6 m A i) R A.2 (.b (8000+i))=some (.k (.box (A.2.getD i default).cs)):=by
        rw[<-DX (by omega)];exact Mw EK hA64 (by omega)
       rw[DX (by omega)]
       repeat'(first|refine AJ ?_|refine I0 (gk rfl) rfl (hbx) rfl rfl rfl ?_|refine Ap ?_|fail)
       refine BU (i+1) ?_;refine AgE hA64 (by omega) ?_ ?_ ?_ ?_ ?_ ?_ ?_ ?_ ?_ ?_ ?_
       all_goals first|rfl|skip
       ·intro j hj;simp(disch:=omega) only [St.Cl,OU,HA,E5];rw[<-DX (by omega)];exact Mw EK hA64 hj
       ·intro j hj;simp(disch:=omega) only [St.Cl,OU,HA,E5];rw[<-DX (by omega)];exact Of EK hA64 hj
      ·have hdi:=CM i m.nodes.length;have hin:i=m.nodes.length:=by omega
       subst hin;have hoa:Ss A m.nodes.length=A.2.map (·.nd):=by
        unfold Ss;rw[<-hlA,AkB]
       repeat'(first|refine HX ?_|refine sq 22 rfl ?_|((fail_if_success (show VC _ (.region 22 _ _) _ _));refine ER ?_)|fail)
       refine VC.le (σ':=AN [(6,.c (.ptr 6 0)),(14,.c (.ptr 14 0))] [(14,.box [.d (mns (Ss A m.nodes.length)),.d (.int .i64 (m.slot+1)),.d (.int .i64 m.turns),.d (ars A.1)]),(6,.box (Me.cs ⟨[],0,0,[]⟩))]) ?_ ?_
       ·exact Cu (fun n=>n) [102,104] hS
       rw[hoa]
       repeat'(first|refine Ad ?_|fail)
       exact P.JI Ae rfl rfl rfl rfl rfl
end Go.Proofs.M
