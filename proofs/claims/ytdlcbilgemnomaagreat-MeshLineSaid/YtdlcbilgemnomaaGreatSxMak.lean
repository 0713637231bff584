/-
  What functions of the program hand back, and plain laws on that. No condition.
-/
import Derived.Test.YtdlcbilgemnomaaGreatSxMai
import Derived.Test.YtdlcbilgemnomaaGreatSxMaj
import Derived.Test.YtdlcbilgemnomaaGreatSxMaa
import Derived.Test.YtdlcbilgemnomaaGreatSxMab
import Derived.Test.YtdlcbilgemnomaaGreatSxMah
import Derived.Test.YtdlcbilgemnomaaGreatSxMaf
import Derived.Test.YtdlcbilgemnomaaGreatSxLibC
import Derived.Test.YtdlcbilgemnomaaGreatSxMad
import Derived.Test.YtdlcbilgemnomaaGreatSxMag
set_option linter.unusedSimpArgs false
set_option linter.unusedVariables false
section
namespace Go.Proofs.M
open Go Go.Sx Go.RowKit Go.Proofs Go.Proofs.T Go.Proofs.Q
set_option maxRecDepth 4000
attribute [local irreducible] VR VC thenQ blockQ retL VX
theorem Yf (l:List Ar) (hl:l.length<=100000):FnS Tryz.prog 86 [AD (ars l)] [] (.c (.row 7 l.length)) [(7,.row 62 3 (rowOf Ar.enc l))]:=by
 refine fb Tryz.func86 (by kernel_rfl) rfl Tryz.ntmps86 Tryz.results86 rfl rfl rfl rfl fun E hS=>?_
 refine AJ ?_
 repeat'(first|refine sR ?_|refine Ak rfl (by exact tt0) ?_|refine sq 1 rfl ?_|fail)
 refine BC ?_;refine BC ?_;refine FD rfl rfl rfl rfl fun b hb=>?_
 repeat'(first|refine sB ?_|refine Ak rfl (by exact tt0) ?_|(refine gA ?_;first|refine Be (gk rfl) rfl rfl rfl (by rfl) (by exact .rd) rfl rfl rfl (by(try dsimp only);omega) rfl rfl ?_)|(refine gD ?_;first|(refine Ay rfl ?_ ?_<;>intro h<;>have hq:=h<;>(try simp only[hqs] at hq)))|fail)
 ·have h0:l=[]:=Ag9 (hb (by assumption));subst h0;exact Ao (le_nil (T:=62) (sz:=3) (nm:=7) (t:=2) rfl rfl) (Bn Ab rfl rfl)
 ·refine Ao (Am (l:=[(2,.c (.row 7 l.length))]) (b:=[(7,.row 62 3 (rowOf Ar.enc l))]) (fun n=>n) ⟨⟨_,rfl,.c (.row rfl (by simp))⟩,trivial⟩ ⟨⟨_,rfl,.Bc ?_ Ag⟩,trivial⟩ rfl (by simp only[wfL,wfs];rfl)) (Bn Ab rfl rfl);exact(List.nil_append _).trans (FI (enc:=Ar.enc) (sz:=3) fun _=>rfl)
def stX (l:List (Nat×AV)) (FX:List (Nat×Blk)) (R:Nat->RI) (X:List Wk):St
 |.s t=>(As l t).map .v
 |.b n=>bif Nat.blt n 8000||(Nat.ble 8100 n&&Nat.blt n 20000) then(As FX n).map .k else(As (DL FX R (X.map Wk.cs)) n).map .k
theorem Ti {FX:List (Nat×Blk)} {R:Nat->RI} {X:List (List C)} {n:Nat} (hX:X.length<=100) (hn:n<8000\/(8100<=n/\n<20000)) (h:As FX n=none):As (DL FX R X) n=none:=by
 cases h1:As (DL FX R X) n with
 |none=>rfl
 |some b=>
  rcases BE h1 with h2|⟨i,_,rfl,_⟩|⟨j,_,rfl,_⟩
  ·rw[h] at h2;cases h2
  ·omega
  ·omega
theorem Ds {l:List (Nat×AV)} {FX:List (Nat×Blk)} {R:Nat->RI} {X:List Wk} (hX:X.length<=100):lsS l FX R X=stX l FX R X:=by
 funext k
 cases k with
 |s t=>rfl
 |b n=>
  show(As (DL FX R (X.map Wk.cs)) n).map Sx.Item.k=bif Nat.blt n 8000||(Nat.ble 8100 n&&Nat.blt n 20000) then(As FX n).map Sx.Item.k else(As (DL FX R (X.map Wk.cs)) n).map Sx.Item.k;cases hb:Nat.blt n 8000||(Nat.ble 8100 n&&Nat.blt n 20000) with
  |false=>rfl
  |true=>
   have hn:n<8000\/(8100<=n/\n<20000):=by simpa using hb
   cases h:As FX n with
   |some b=>rw[BI h];rfl
   |none=>rw[Ti (by rw[Agz];exact hX) hn h];rfl
def Pw (m:Me) (k:Nat):List Wk:=(List.range k).map fun i=>AbK (m.nodes.getD i default) i
def FK (R:Nat->RI) (k:Nat):List Nat:=(List.range k).map fun j=>(R j).blk
def fx0 (m:Me) (loads:List Ld) (sil:List Si) (R:Nat->RI) (k:Nat):List (Nat×Blk):=
 [(100,.box [.d (.int .i64 m.slot),.d (.int .i64 m.turns),.row 103 (FK R k).length,.d (lds loads),.d (sis sil),.row 102 m.arr.length]),(102,.row 62 3 (rowOf Ar.enc m.arr)),(103,.row 136 1 (rowOf LX (FK R k))),(3,.box m.cs),(6,.box (Me.cs ⟨[],0,0,[]⟩))]
theorem GQ {m:Me} {loads:List Ld} {sil:List Si} {R:Nat->RI} {k:Nat}:ET (fx0 m loads sil R k):=by
 intro p hp;simp only[fx0,AgD,Agq,or_false] at hp;rcases hp with rfl|rfl|rfl|rfl|rfl<;>simp
theorem OP {m:Me} {loads:List Ld} {sil:List Si} {R:Nat->RI} {k:Nat} {Y:List (List C)}:∀p∈fx0 m loads sil R k,∀n∈p.2.names,(As (DL (fx0 m loads sil R k) R Y) n).isSome=true:=by
 intro p hp;simp only[fx0,AgD,Agq,or_false] at hp;rcases hp with rfl|rfl|rfl|rfl|rfl<;>intro n hn
 ·simp only[Blk.names,List.flatMap_cons,List.flatMap_nil,C.names,List.nil_append,AgF,AgD,Agq,or_false,List.cons_append] at hn;rcases hn with rfl|rfl<;>rfl
 ·rw[AY] at hn;cases hn
 ·rw[AY] at hn;cases hn
 ·simp[Blk.names,Me.cs,C.names] at hn
 ·simp[Blk.names,Me.cs,C.names] at hn
theorem Le.tr {P:Program} {N:Nat} {E:Env P N} {σ τ υ:St} (h1:Le E σ τ) (h2:Le E τ υ):Le E σ υ:=fun a w h=>h2 a w (h1 a w h)
def La (R:Nat->RI) (k:Nat) (r:RI):Nat->RI:=fun j=>if j=k then r else R j
theorem NY {R:Nat->RI} {k:Nat} {r:RI}:FK (La R k r) (k+1)=FK R k++[r.blk]:=by
 unfold FK;rw[List.range_succ,Ag8]
 congr 1
 ·refine List.map_congr_left fun j hj=>?_
  have:=AgQ.1 hj;unfold La;rw[AgY (by omega)]
 ·simp[La]
theorem YV {m:Me} {k j:Nat} (h:j<k):(Pw m k).getD j default=AbK (m.nodes.getD j default) j:=by
 simp[Pw,Agi,h]
theorem Ky {m:Me} {k:Nat}:(Pw m k).length=k:=by simp[Pw]
def gNm (k n:Nat):Nat:=if n=8000+k then 44 else if n=20000+k then 9044 else if n=103 then 46 else n
theorem XW {k n:Nat} (h1:n≠8000+k) (h2:n≠20000+k) (h3:n≠103):gNm k n=n:=by
 unfold gNm;rw[AgY h1,AgY h2,AgY h3]
theorem RT {m:Me} {loads:List Ld} {sil:List Si} {R:Nat->RI} {k n:Nat} {b:Blk} (h:As (fx0 m loads sil R k) n=some b):
  (n=100/\b=.box [.d (.int .i64 m.slot),.d (.int .i64 m.turns),.row 103 (FK R k).length,.d (lds loads),.d (sis sil),.row 102 m.arr.length])\/(n=102/\b=.row 62 3 (rowOf Ar.enc m.arr))\/(n=103/\b=.row 136 1 (rowOf LX (FK R k)))\/(n=3/\b=.box m.cs)\/(n=6/\b=.box (Me.cs ⟨[],0,0,[]⟩)):=by
 have:=AE h;simp only[fx0,AgD,Agq,or_false,Prod.mk.injEq] at this;exact this
theorem Adg {E:Env Tryz.prog 116} {σ:St} {m:Me} {loads:List Ld} {sil:List Si} {R:Nat->RI} {k:Nat} {r:RI} (hk:k<64)
  (s3:σ (.s 3)=some (.v (.c (.ptr 3 0)))) (s6:σ (.s 6)=some (.v (.c (.ptr 6 0)))) (s7:σ (.s 7)=some (.v (.c (.ptr 100 0)))) (s29:σ (.s 29)=some (.v (AD (mns m.nodes)))) (s30:σ (.s 30)=some (.v (AI m.nodes.length))) (s31:σ (.s 31)=some (.v (AI ((k+1:Nat):Int))))
  (h100:σ (.b 100)=some (.k (.box [.d (.int .i64 m.slot),.d (.int .i64 m.turns),.row 46 ((FK R k).length+1),.d (lds loads),.d (sis sil),.row 102 m.arr.length]))) (h102:σ (.b 102)=some (.k (.row 62 3 (rowOf Ar.enc m.arr))))
  (h46:σ (.b 46)=some (.k (.row 136 1 (rowOf LX (FK R k)++[[.d (.raw (pvo r.blk 0))]])))) (h3:σ (.b 3)=some (.k (.box m.cs))) (h6:σ (.b 6)=some (.k (.box (Me.cs ⟨[],0,0,[]⟩))))
  (h44:σ (.b 44)=some (.k (.box (AbK (m.nodes.getD k default) k).cs))) (hpn:σ (.b 9044)=some (.k (.pin 44 r)))
  (hfam:∀j,j<k->σ (.b (8000+j))=some (.k (.box ((Pw m k).getD j default).cs))) (hpin:∀j,j<k->σ (.b (20000+j))=some (.k (.pin (8000+j) (R j)))):
  Le E σ (lsS [(3,.c (.ptr 3 0)),(6,.c (.ptr 6 0)),(7,.c (.ptr 100 0)),(29,AD (mns m.nodes)),(30,AI m.nodes.length),(31,AI ((k+1:Nat):Int))] (fx0 m loads sil (La R k r) (k+1)) (La R k r) (Pw m (k+1))):=by
 have hid:∀{n},n<8000->n≠103->gNm k n=n:=fun h1 h2=>XW (by omega) (by omega) h2
 have hX:((Pw m (k+1)).map Wk.cs).length<=100:=by rw[Agz,Ky];omega
 refine Vm (gNm k) ⟨⟨_,s3,.c (.ptr (hid (by omega) (by omega)))⟩,⟨_,s6,.c (.ptr (hid (by omega) (by omega)))⟩,⟨_,s7,.c (.ptr (hid (by omega) (by omega)))⟩,⟨_,s29,.c .d⟩,⟨_,s30,.c .d⟩,⟨_,s31,.c .d⟩,trivial⟩ (fun n x hx=>?_) (fun n1 n2 h1 h2 hne he=>?_) (MH GQ hX ?_ OP (F8 _))
 ·rcases BE hx with h|⟨j,hj,rfl,rfl⟩|⟨j,hj,rfl,rfl⟩
  ·rcases RT h with⟨rfl,rfl⟩|⟨rfl,rfl⟩|⟨rfl,rfl⟩|⟨rfl,rfl⟩|⟨rfl,rfl⟩
   ·rw[hid (n:=100) (by omega) (by omega)];refine⟨_,h100,.box (.cons .d (.cons .d (.cons (.row ?_ ?_) (.cons .d (.cons .d (.cons (.row (hid (by omega) (by omega)) rfl) .nil))))))⟩
    ·unfold gNm;rw[AgY (by omega),AgY (by omega),AgZ rfl]
    ·rw[NY,Agn];rfl
   ·rw[hid (n:=102) (by omega) (by omega)];exact⟨_,h102,.Bc rfl Ag⟩
   ·have e:gNm k 103=46:=by
     unfold gNm;rw[AgY (by omega),AgY (by omega),AgZ rfl]
    rw[e];refine⟨_,h46,.Bc ?_ Ag⟩;rw[NY];exact(AZ (enc:=LX) (l:=FK R k) (m:=[r.blk])).symm
   ·rw[hid (n:=3) (by omega) (by omega)];exact⟨_,h3,.Bs rfl rfl⟩
   ·rw[hid (n:=6) (by omega) (by omega)];exact⟨_,h6,.Bs rfl rfl⟩
  ·rw[Agz,Ky] at hj;rw[HG (by rw[Ky];exact hj),YV hj];by_cases e:j=k
   ·subst e;rw[show gNm j (8000+j)=44 from AgZ rfl];exact⟨_,h44,.Bs rfl rfl⟩
   ·rw[XW (by omega) (by omega) (by omega)];refine⟨_,hfam j (by omega),?_⟩;rw[YV (by omega)];exact .Bs rfl rfl
  ·rw[Agz,Ky] at hj;by_cases e:j=k
   ·subst e;rw[show gNm j (20000+j)=9044 from by unfold gNm;rw[AgY (by omega),AgZ rfl],show La R j r j=r from AgZ rfl];exact⟨_,hpn,.pin (AgZ rfl)⟩
   ·rw[XW (by omega) (by omega) (by omega),show La R k r j=R j from AgY e];exact⟨_,hpin j (by omega),.pin (XW (by omega) (by omega) (by omega))⟩
 ·have key:∀n,(As (DL (fx0 m loads sil (La R k r) (k+1)) (La R k r) ((Pw m (k+1)).map Wk.cs)) n).isSome=true->n=100\/n=102\/n=103\/n=3\/n=6\/(8000<=n/\n<8100)\/(20000<=n/\n<20100):=fun n h=>by
   obtain⟨b,hb⟩:=Ag7.1 h;rcases BE hb with h|⟨j,hj,rfl,_⟩|⟨j,hj,rfl,_⟩
   ·rcases RT h with⟨rfl,_⟩|⟨rfl,_⟩|⟨rfl,_⟩|⟨rfl,_⟩|⟨rfl,_⟩<;>simp
   ·omega
   ·omega
  have k1:=key n1 h1;have k2:=key n2 h2;unfold gNm at he
  repeat' split at he
  all_goals omega
 ·intro p hp;simp only[AgD,Agq,or_false] at hp;rcases hp with rfl|rfl|rfl|rfl|rfl|rfl<;>refine⟨rfl,fun n hn=>?_⟩<;>simp only[AV.names,AV.Ch,C.names,AgD,Agq,or_false] at hn<;>subst hn<;>rfl
end Go.Proofs.M
end
section
namespace Go.Proofs.Q
open Go Go.Sx
structure OkQ (lim:Int) (l:List Pk):Prop where
 bnd:1<=lim/\lim<=64
 len:(l.length:Int)<=lim
 form:∀x∈l,Ft x=0
 pair:l.Pairwise fun x y=>x.id≠y.id/\x.prio<=y.prio
theorem Hw {l:List Pk} {k:Nat} (h:k<l.length):l.getD k default=l[k]:=by
 rw[Agi,Agr h];rfl
theorem U3 {q:Qu} (h:Br q=0):OkQ q.Bk q.Af:=by
 obtain⟨h1,h2,h3⟩:=CP h;refine⟨⟨h1,h2⟩,h3,fun x hx=>?_,List.pairwise_iff_getElem.2 fun i j hi hj hij=>?_⟩
 ·obtain⟨k,hk,rfl⟩:=E7 hx;exact(El h hk).1
 ·rw[<-Hw hi,<-Hw hj];refine⟨O7 h hi hj (by omega),?_⟩;have key:∀d,i+d<q.Af.length->(q.Af.getD i default).prio<=(q.Af.getD (i+d) default).prio:=by
   intro d
   induction d with
   |zero=>intro _;exact Int.le_refl _
   |succ d ih=>
    intro hd;have h4:=(El h hd).2.2 (by omega);rw[show i+(d+1)-1=i+d by omega] at h4;exact Int.le_trans (ih (by omega)) h4
  have:=key (j-i) (by omega)
  rwa [show i+(j-i)=j by omega] at this
theorem N8 {lim:Int} {l:List Pk} (h:OkQ lim l):Br ⟨lim,l⟩=0:=by
 unfold Br;have h1:=h.bnd;have h2:=h.len;rw[AgY (by simp only[inI];simp;omega),AgY (by dsimp only;omega)];refine CI fun k hk=>?_
 dsimp only at hk ⊢;have hp:=List.pairwise_iff_getElem.1 h.pair;unfold IH;rw[AgY (by simp only[ne_eq,Agu];exact h.form _ (CU hk)),AgY ?_,AgY ?_]
 ·rintro⟨h0,h3⟩;have:=(hp (k-1) k (by omega) hk (by omega)).2;rw[Hw hk,Hw (show k-1<l.length by omega)] at h3;omega
 ·intro ha;rw[AgB] at ha;obtain⟨x,hx,he⟩:=ha;obtain⟨i,hi,hil,rfl⟩:=C5 hx;have:=(hp i k hil hk hi).1;rw[Hw hk,Hw hil] at he;exact this (AgI he)
theorem OkQ.sub {lim:Int} {l m:List Pk} (h:OkQ lim l) (hs:m.Sublist l):OkQ lim m:=
 ⟨h.bnd,by have:=h.len;have:=hs.length_le;omega,fun x hx=>h.form x (hs.subset hx),h.pair.sublist hs⟩
def Pv (l:List Pk):List Int:=l.map Pk.id
theorem GN (l:List Pk) (i:Nat) (p:Pk):(Bq l i p).Perm (p :: l):=by
 unfold Bq;exact(List.perm_middle).trans (by rw[AgH])
theorem U4 {lim:Int} {l:List Pk} {p:Pk} (h:OkQ lim l) (hp:Ft p=0) (hi:p.id∉Pv l) (hl:(l.length:Int)+1<=lim):OkQ lim (Bq l (atP l p.prio) p):=by
 have hpw:=List.pairwise_iff_getElem.1 h.pair;have hne:∀x∈l,x.id≠p.id:=fun x hx e=>hi (AgT.2 ⟨x,hx,e⟩)
 have hlo:∀x∈l.take (atP l p.prio),x.prio<=p.prio:=fun x hx=>by
  obtain⟨k,hk,hkl,rfl⟩:=C5 hx;unfold atP at hk;cases hf:Fs l fun x=>decide (p.prio<x.prio) with
  |none=>
   have:=AgJ (EK hf _ (CU hkl));omega
  |some j=>
   rw[hf] at hk;have:=AgJ ((BJ hf).2.2 k hk);omega
 have hhi:∀y∈l.drop (atP l p.prio),p.prio<=y.prio:=fun y hy=>by
  unfold atP at hy;cases hf:Fs l fun x=>decide (p.prio<x.prio) with
  |none=>rw[hf] at hy;simp at hy
  |some j=>
   rw[hf] at hy;obtain⟨hj,hpj,_⟩:=BJ hf;have hpj:=AgI hpj;obtain⟨k,hk,rfl⟩:=List.getElem_of_mem hy;rw[Option.getD_some,Agv] at hk;simp only[Option.getD_some,List.getElem_drop];rw[Hw hj] at hpj;rcases Nat.eq_zero_or_pos k with rfl|h0
   ·simp only[Nat.add_zero];omega
   ·have:=(hpw j (j+k) hj (by omega) (by omega)).2;omega
 refine⟨h.bnd,by rw[(GN l _ p).length_eq,List.length_cons];omega,fun x hx=>?_,?_⟩
 ·rcases AgD.1 ((GN l _ p).mem_iff.1 hx) with rfl|hx
  ·exact hp
  ·exact h.form x hx
 ·unfold Bq;rw[List.pairwise_append];refine⟨h.pair.sublist (List.take_sublist _ _),List.pairwise_cons.2 ⟨fun y hy=>⟨fun e=>hne y (List.mem_of_mem_drop hy) e.symm,hhi y hy⟩,h.pair.sublist (List.drop_sublist _ _)⟩,fun x hx y hy=>?_⟩;rcases AgD.1 hy with rfl|hy
  ·exact⟨hne x (Ag6 hx),hlo x hx⟩
  ·have hp2:=h.pair;rw[<-AgH (atP l p.prio) l,List.pairwise_append] at hp2;exact hp2.2.2 x hx y hy
theorem Aam {q:Qu} {p:Pk} (hc:Br q=0) (h:(EW q p).2.2=0):p.id∉Pv q.Af/\(EW q p).1.Bk=q.Bk/\OkQ q.Bk (EW q p).1.Af /\
  (Pv (EW q p).2.1++Pv (EW q p).1.Af).Perm (p.id :: Pv q.Af):=by
 have hok:=U3 hc;have hl:=CP hc;unfold EW at h ⊢;rw[AgY (by omega)] at h ⊢;by_cases hf:Ft p=0
 ·rw[AgY (by omega)] at h ⊢;by_cases ha:(q.Af.any fun x=>decide (x.id=p.id))=true
  ·rw[AgZ ha] at h;cases h
  ·rw[AgY ha] at h ⊢;have hi:p.id∉Pv q.Af:=fun hm=>by
    obtain⟨x,hx,e⟩:=AgT.1 hm;exact ha (AgB.2 ⟨x,hx,Agj e⟩)
   by_cases hfull:(q.Af.length:Int)=q.Bk
   ·rw[AgZ hfull] at h ⊢;by_cases hpr:(q.Af.getD (q.Af.length-1) default).prio<=p.prio
    ·rw[AgZ hpr] at h;cases h
    ·rw[AgY hpr];have hsub:OkQ q.Bk (q.Af.take (q.Af.length-1)):=hok.sub (List.take_sublist _ _);have hi':p.id∉Pv (q.Af.take (q.Af.length-1)):=fun hm=>by
      obtain⟨x,hx,e⟩:=AgT.1 hm;exact hi (AgT.2 ⟨x,Ag6 hx,e⟩)
     refine⟨hi,rfl,U4 hsub hf hi' (by rw[Ags];omega),?_⟩;have e1:q.Af.take (q.Af.length-1)++[q.Af.getD (q.Af.length-1) default]=q.Af:=by
      have:=Ce (l:=q.Af) (i:=q.Af.length-1) (by omega);rw[<-this,AgP (by omega)]
     have h2:(Pv (Bq (q.Af.take (q.Af.length-1)) (atP (q.Af.take (q.Af.length-1)) p.prio) p)).Perm (p.id :: Pv (q.Af.take (q.Af.length-1))):=(GN _ _ p).map Pk.id;have h3:(Pv [q.Af.getD (q.Af.length-1) default]++Pv (q.Af.take (q.Af.length-1))).Perm (Pv q.Af):=by
      have:(Pv (q.Af.take (q.Af.length-1))++Pv [q.Af.getD (q.Af.length-1) default])=Pv q.Af:=by unfold Pv;rw[<-Ag8,e1]
      rw[<-this];exact List.perm_append_comm
     exact(h2.append_left _).trans (List.perm_middle.trans (h3.cons _))
   ·rw[AgY hfull];refine⟨hi,rfl,U4 hok hf hi (by omega),?_⟩;exact(GN _ _ p).map Pk.id
 ·rw[AgZ hf] at h;exact absurd h hf
theorem OD {l:List Pk} {i:Nat} {p x:Pk} (h:x∈Bq l i p):x=p\/x∈l:=by
 unfold Bq at h;rcases List.mem_append.1 h with h|h
 ·exact .inr (Ag6 h)
 ·rcases AgD.1 h with h|h
  ·exact .inl h
  ·exact .inr (List.mem_of_mem_drop h)
theorem Rw {q:Qu} {p x:Pk} (hc:Br q=0) (h:(EW q p).2.2=0) (hx:x∈(EW q p).1.Af):x=p\/x∈q.Af:=by
 unfold EW at h hx;rw[AgY (by omega)] at h hx;by_cases hf:Ft p=0
 ·rw[AgY (by omega)] at h hx;by_cases ha:(q.Af.any fun x=>decide (x.id=p.id))=true
  ·rw[AgZ ha] at h;cases h
  ·rw[AgY ha] at h hx;by_cases hfull:(q.Af.length:Int)=q.Bk
   ·rw[AgZ hfull] at h hx;by_cases hpr:(q.Af.getD (q.Af.length-1) default).prio<=p.prio
    ·rw[AgZ hpr] at h;cases h
    ·rw[AgY hpr] at hx;rcases OD hx with h1|h1
     ·exact .inl h1
     ·exact .inr (Ag6 h1)
   ·rw[AgY hfull] at hx;exact OD hx
 ·rw[AgZ hf] at h;exact absurd h hf
end Go.Proofs.Q
end
section
namespace Go.Proofs
open Go Go.Sx Go.Proofs.T Go.Proofs.Q
set_option maxRecDepth 4000
attribute [local irreducible] VR VC thenQ blockQ retL

theorem Vz {l:List Hd} (h:Gn l=true):Nr Hd.Cb l:=Mu fun i hi h0=>((D8 h).2 i hi).2.2 h0

structure Pl where
 a:Ac
 c:TC
 p:Pk
 some:Bool
def Pl.cs (x:Pl):List C:=[.d (.int .i64 x.a.kind),.d (.int .i64 x.a.offset),.d (.int .i64 x.a.BF),.d (.int .i64 x.a.source),.d (.int .i64 x.a.target),.d (.int .i64 x.a.list),.d (.int .i64 x.a.seq),.d (.int .i64 x.a.Cb),.d (.int .i64 x.a.number),.d (.int .i64 x.a.err),.d (.int .i64 x.a.slot),.d (.int .i64 x.a.rank),.d (.int .i64 x.a.epoch),.d (.str x.a.data),
 .d (.int .i64 x.c.slot),.d (.int .i64 x.c.offset),.d (.int .i64 x.c.kind),.d (.bool x.c.send),.d (.int .i64 x.c.peer),.d (.int .i64 x.c.Cb),
 .d (.int .i64 x.p.id),.d (.int .i64 x.p.to),.d (.int .i64 x.p.prio),.d (.int .i64 x.p.born),.d (.int .i64 x.p.AaB),.d (.str x.p.data),.d (.bool x.some)]
abbrev plA (x:Pl):AV:=.agg x.cs
def Aan (s:Sta) (c:TC):Pk×Bool:=if c.kind=2/\c.send=true then(if(DS s.qu c.peer).2=true then((DS s.qu c.peer).1,true) else(noP,false)) else if c.kind=3 then(Abz s (G3 s),(G3 s).isSome) else(noP,false)



abbrev strs (l:List ByteArray):D:=Iv (fun x=>[.str x]) 1 l
abbrev AcD (p:ByteArray->Bool):List DV->DV->Prop:=fun ds r=>∃x:ByteArray,ds=[.d (.str x)]/\r=.d (.bool (p x))




theorem AaN {l:List Pk} {p:Pk} (h:p∈l):∃i,OF l p.id=some i:=by
 cases hf:OF l p.id with
 |some i=>exact⟨i,rfl⟩
 |none=>
  have:=EK hf p h;simp at this
theorem N9 (a:Ac) (o:Int):(RE a o).kind=a.kind:=by unfold RE;split<;>rfl
theorem Te (a:Ac) (o:Int):(RE a o).BF=a.BF:=by unfold RE;split<;>rfl
theorem Nk {s:Sta} {slot:Int} {c:TC} (hck:AQ s=0) (h1:(C2 s slot c).kind=1) (h2:¬(C2 s slot c).BF=1):
  Aan s c=(Bz s c,true)/\Bz s c∈s.qu.Af/\C2 s slot c={Adb s (Bz s c) with offset:=c.offset}/\((c.kind=2/\c.send=true/\(DS s.qu c.peer).2=true)\/(c.kind=3/\(G3 s).isSome=true/\s.wait=0)):=by
 obtain⟨_,hQ,_,_⟩:=Bf hck;unfold C2 at h1 h2 ⊢;rw[N9] at h1;rw[Te] at h2;unfold G1 at h1 h2 ⊢;by_cases k1:c.kind=1
 ·rw[AgZ k1] at h1 h2;unfold Wc at h1 h2
  split at h1
  ·cases h1
  ·rename_i hsd;rw[AgY hsd] at h2
   split at h1
   ·cases h1
   ·rename_i i hh;rw[hh] at h2;dsimp only at h2
    split at h1
    ·cases h1
    ·rename_i hn;rw[AgY hn] at h2;exact absurd rfl h2
 ·rw[AgY k1] at h1 h2 ⊢;by_cases k2:c.kind=2
  ·rw[AgZ k2] at h1 h2 ⊢;unfold Yu at h1 h2 ⊢
   split at h1
   ·cases h1
   ·rename_i hsd;have hsd':c.send=true:=by simpa using hsd
    rw[AgY hsd] at h2 ⊢
    split at h1
    ·rename_i hq;rw[AgZ hq];have hs:Bz s c=(DS s.qu c.peer).1:=by rw[Bz,AgY (by omega)]
     refine⟨?_,?_,?_,.inl ⟨k2,hsd',hq⟩⟩
     ·rw[Aan,AgZ ⟨k2,hsd'⟩,AgZ hq,hs]
     ·rw[hs];cases hf:Qn s.qu.Af c.peer with
      |none=>rw[Hy hQ hf] at hq;cases hq
      |some i=>
       rw[Hx hQ hf];obtain⟨hi,_,_⟩:=BJ hf;exact CU hi
     ·rw[hs];rfl
    ·cases h1
  ·rw[AgY k2] at h1 h2 ⊢;by_cases k3:c.kind=3
   ·rw[AgZ k3] at h1 h2 ⊢;unfold YM at h1 h2 ⊢
    split at h1
    ·rename_i hq;rw[AgZ hq];have hs:Bz s c=Abz s (G3 s):=by rw[Bz,AgZ k3]
     refine⟨?_,?_,?_,.inr ⟨k3,hq⟩⟩
     ·rw[Aan,AgY (fun h=>k2 h.1),AgZ k3,hs,hq.1]
     ·rw[hs];cases hf:G3 s with
      |none=>rw[hf] at hq;cases hq.1
      |some i=>
       obtain⟨hi,_,_⟩:=BJ hf;exact CU hi
     ·rw[hs];rfl
    ·cases h1
   ·rw[AgY k3] at h1;cases h1
end Go.Proofs
end
section
namespace Go.Proofs
open Go Go.Sx Go.Proofs.T Go.Proofs.Q
theorem RY {p:Pk} (h:Ft p=0):0<=p.id/\-1<=p.to/\p.to<=31:=by
 unfold Ft at h
 split at h
 ·cases h
 ·rename_i hn;simp only[inI,not_or,Agm,Agu] at hn;omega
theorem S9 {l:List Pk} {k:Nat} (h:k<l.length):l.getD k default=l[k]:=by
 rw[Agi,Agr h];rfl
theorem AeK {q:Qu} (h:Br q=0):q.Af.Pairwise fun x y=>x.id≠y.id/\x.prio<=y.prio:=by
 refine List.pairwise_iff_getElem.2 fun i j hi hj hij=>?_
 rw[<-S9 hi,<-S9 hj];refine⟨O7 h hi hj (by omega),?_⟩;have key:∀d,i+d<q.Af.length->(q.Af.getD i default).prio<=(q.Af.getD (i+d) default).prio:=by
  intro d
  induction d with
  |zero=>intro _;exact Int.le_refl _
  |succ d ih=>
   intro hd;have h4:=(El h hd).2.2 (by omega);rw[show i+(d+1)-1=i+d by omega] at h4;exact Int.le_trans (ih (by omega)) h4
 have:=key (j-i) (by omega)
 rwa [show i+(j-i)=j by omega] at this
theorem AfM {q:Qu} (h:Br q=0) {m:List Pk} (hs:m.Sublist q.Af):Br ⟨q.Bk,m⟩=0:=by
 obtain⟨h1,h2,h3⟩:=CP h;have hl:=hs.length_le;have hp:=List.pairwise_iff_getElem.1 ((AeK h).sublist hs);unfold Br;rw[AgY (by simp only[inI];simp;omega),AgY (by dsimp only;omega)];refine CI fun k hk=>?_
 dsimp only at hk ⊢;unfold IH;have hf:Ft (m.getD k default)=0:=by
  obtain⟨i,hi,he⟩:=E7 (hs.subset (CU hk));rw[<-he];exact(El h hi).1
 rw[AgY (by simp only[ne_eq,Agu];exact hf),AgY ?_,AgY ?_]
 ·rintro⟨h0,h3⟩;have:=(hp (k-1) k (by omega) hk (by omega)).2;rw[S9 hk,S9 (show k-1<m.length by omega)] at h3;omega
 ·intro ha;rw[AgB] at ha;obtain⟨x,hx,he⟩:=ha;obtain⟨i,hi,hil,rfl⟩:=C5 hx;have:=(hp i k hil hk hi).1;rw[S9 hk,S9 hil] at he;exact this (AgI he)
theorem Ra {s:Sta} (hQ:Br s.qu=0) {p:Pk} (hp:p∈s.qu.Af):∃m,(IA s.qu p.id).1=⟨s.qu.Bk,m⟩/\m.Sublist s.qu.Af:=by
 obtain⟨i,hi⟩:=AaN hp;rw[Lp hQ hi];exact⟨_,rfl,List.eraseIdx_sublist _ _⟩
theorem D0 {s t:Sta} (hck:AQ s=0) {m:List Pk} (hs:m.Sublist s.qu.Af) (ht:t.tb=s.tb) (hq:t.qu=⟨s.qu.Bk,m⟩):C4 t=true:=by
 obtain⟨_,hQ,hP,_⟩:=Bf hck;unfold C4;rw[hq,ht,AfM hQ hs,AgC.2 fun x hx=>by rw[hP x (hs.subset hx)];simp]
 rfl
theorem RP {s:Sta} (hck:AQ s=0) {p:Pk} (hp:p∈s.qu.Af) (b w:Int) (hb:0<=b/\b<=5/\0<=w/\w<=2^b.toNat-1):
  AQ {Dg s p.id with back:=b,wait:=w}=0/\({Dg s p.id with back:=b,wait:=w}:Sta).qu.Af.length<=s.qu.Af.length:=by
 obtain⟨h1,h2,h3,h4,h5,h6,h7⟩:=Bf hck;obtain⟨m,hm,hs⟩:=Ra h2 hp;have h7:=FH h7;refine⟨Cw h1 (D0 hck hs rfl hm) h4 h5 (Agj (.inl ⟨rfl,rfl⟩)) (Agj ?_),?_⟩
 ·show 0<=s.list/\s.list<=255/\0<=(s.seq+1) % 256/\(s.seq+1) % 256<=255/\0<=b/\b<=5/\0<=w/\w<=2^b.toNat-1/\0<=s.CY/\s.CY<=2147483647;exact⟨h7.1,h7.2.1,by omega,by omega,hb.1,hb.2.1,hb.2.2.1,hb.2.2.2,h7.2.2.2.2.2.2.2.2.1,h7.2.2.2.2.2.2.2.2.2⟩
 ·show(IA s.qu p.id).1.Af.length<=_;rw[hm];exact hs.length_le
theorem Sm {s:Sta} {c:TC} (hck:AQ s=0) (hp:Bz s c∈s.qu.Af) (ht:Et s c<4) (b w d:Int) (hb:0<=b/\b<=5/\0<=w/\w<=2^b.toNat-1) (hd:0<=d/\d<=2147483647):
  AQ {s with Bl:=(Bz s c).id,tries:=Et s c,back:=b,wait:=w,CY:=d}=0:=by
 obtain⟨h1,h2,h3,h4,h5,h6,h7⟩:=Bf hck;have h7:=FH h7;have h6:=AgI h6;obtain⟨i,hi,he⟩:=E7 hp;have hid:0<=(Bz s c).id:=by rw[<-he];exact(RY (El h2 hi).1).1
 have ht1:1<=Et s c:=by
  unfold Et
  split<;>omega
 refine Cw h1 (D0 hck (List.Sublist.refl _) rfl rfl) h4 h5 (Agj (.inr ⟨hid,?_,ht1,ht⟩)) (Agj ?_)
 ·exact AgB.2 ⟨_,hp,Agj rfl⟩
 ·show 0<=s.list/\s.list<=255/\0<=s.seq/\s.seq<=255/\0<=b/\b<=5/\0<=w/\w<=2^b.toNat-1/\0<=d/\d<=2147483647;exact⟨h7.1,h7.2.1,h7.2.2.1,h7.2.2.2.1,hb.1,hb.2.1,hb.2.2.1,hb.2.2.2,hd.1,hd.2⟩
def YA (s t:Sta):Prop:=AQ t=0/\t.qu.Af.length<=s.qu.Af.length/\t.tb=s.tb
theorem Xb {s:Sta} {c:TC} (AT:Bool) (hck:AQ s=0) (hp:Bz s c∈s.qu.Af):YA s (CS s c AT):=by
 obtain⟨h1,h2,h3,h4,h5,h6,h7⟩:=Bf hck;have h7:=FH h7;have hL:YA s (Dg s (Bz s c).id):=by
  have:=RP hck hp s.back s.wait ⟨h7.2.2.2.2.1,h7.2.2.2.2.2.1,h7.2.2.2.2.2.2.1,h7.2.2.2.2.2.2.2.1⟩;exact⟨this.1,this.2,rfl⟩
 unfold CS
 split
 ·exact hL
 ·split
  ·unfold TA
   split
   ·have:=RP hck hp 0 0 (by decide);exact⟨this.1,this.2,rfl⟩
   ·exact hL
  ·rename_i hn;have ht:Et s c<4:=Int.lt_of_not_ge fun h=>hn (.inr h)
   unfold L5
   split
   ·have hpw:=(Ad3 (min (s.back+1) 5)).resolve_left (by omega) |>.resolve_left (by omega);have hsd:0<=BS s.CY/\BS s.CY<=2147483647:=by unfold BS;omega
    refine⟨Sm hck hp ht (min (s.back+1) 5) (BS s.CY/65536 % 2^(min (s.back+1) 5).toNat) (BS s.CY) ⟨by omega,by omega,?_,?_⟩ hsd,Ag0 _,rfl⟩
    ·exact Int.emod_nonneg _ (by omega)
    ·have:=Int.emod_lt_of_pos (BS s.CY/65536) (show 0<(2:Int)^(min (s.back+1) 5).toNat by omega);omega
   ·exact⟨Sm hck hp ht s.back s.wait s.CY ⟨h7.2.2.2.2.1,h7.2.2.2.2.2.1,h7.2.2.2.2.2.2.1,h7.2.2.2.2.2.2.2.1⟩ h7.2.2.2.2.2.2.2.2,Ag0 _,rfl⟩
theorem UN {α:Type} [Inhabited α] {k:α->Int} {l:List α} (h:Nr k l):l.Pairwise fun a b=>k a<k b:=by
 refine List.pairwise_iff_getElem.2 fun i j hi hj hij=>?_
 have:=h i j hij hj;rw[Agi,Agi,Agr hi,Agr hj] at this;exact this
theorem UR {α:Type} [Inhabited α] {k:α->Int} {l:List α} (h:l.Pairwise fun a b=>k a<k b):Nr k l:=by
 intro i j hij hj;have:=List.pairwise_iff_getElem.1 h i j (by omega) hj hij;rw[Agi,Agi,Agr (show i<l.length by omega),Agr hj];exact this
theorem NG {α:Type} [Inhabited α] {k:α->Int} {l:List α} (x:α) (h:Nr k l):Nr k (Nq k l x):=by
 refine UR ?_;have hp:=UN h;unfold Nq;rw[List.pairwise_append];refine⟨hp.filter _,List.pairwise_cons.2 ⟨fun a ha=>AgI (AgR.1 ha).2,hp.filter _⟩,fun a ha b hb=>?_⟩;have h1:=AgI (AgR.1 ha).2;rcases AgD.1 hb with rfl|hb
 ·exact h1
 ·have h2:=AgI (AgR.1 hb).2;omega
theorem Q8 {α:Type} {k:α->Int} {l:List α} {x y:α} (h:y∈Nq k l x):y=x\/y∈l:=by
 unfold Nq at h;rcases List.mem_append.1 h with h|h
 ·exact .inr (AgR.1 h).1
 ·rcases AgD.1 h with h|h
  ·exact .inl h
  ·exact .inr (AgR.1 h).1
theorem Xj {l:List Sn} (h:∀x∈l,0<=x.node/\x.node<=31/\0<=x.seq/\x.seq<=255) (hr:Nr Sn.node l):Hp l=true:=by
 unfold Hp;rw[ES fun i hi=>?_]
 ·rfl
 refine Agk ?_;have h1:=h _ (CU hi);rintro(h2|h2|⟨h0,h2⟩)
 ·omega
 ·omega
 ·have:=hr (i-1) i (by omega) hi;omega
theorem SX {l:List Int} (h:∀x∈l,0<=x/\x<=31) (hr:Nr id l):EH l=true:=by
 unfold EH;rw[ES fun i hi=>?_]
 ·rfl
 refine Agk ?_;have h1:=h _ (CU hi);rintro(h2|h2|⟨h0,h2⟩)
 ·omega
 ·omega
 ·have h3:l.getD (i-1) default<l.getD i default:=hr (i-1) i (by omega) hi;omega
theorem YN {l:List Hd} {i j:Nat} {x:Hd} (hi:i<l.length):(l.set i x).getD j default=if i=j then x else l.getD j default:=by
 rw[Agi,List.getElem?_set]
 split
 ·first|rfl|(rw[AgZ hi];rfl)
 ·rw[<-Agi]
theorem VA {l:List Hd} (h:Gn l=true) {i:Nat} (hi:i<l.length) {a:List Int} (ha:EH a=true):Gn (l.set i {l.getD i default with AT:=a})=true:=by
 obtain⟨h1,h2⟩:=D8 h;have hfl:∀j,((l.set i {l.getD i default with AT:=a}).getD j default).Cb=(l.getD j default).Cb/\((l.set i {l.getD i default with AT:=a}).getD j default).data=(l.getD j default).data:=by
  intro j;rw[YN hi]
  split
  ·rename_i e;subst e;exact⟨rfl,rfl⟩
  ·exact⟨rfl,rfl⟩
 have hrg:∀j,j<l.length->FJ ((l.set i {l.getD i default with AT:=a}).getD j default)=true:=by
  intro j hj;rw[YN hi];have h3:=DZ (h2 j hj).1
  split
  ·rename_i e;subst e;unfold FJ;rw[ha,Bool.and_true];exact Agj ⟨h3.1,h3.2.1,h3.2.2.1,h3.2.2.2.1,h3.2.2.2.2.1,h3.2.2.2.2.2.1⟩
  ·exact(h2 j hj).1
 unfold Gn;rw[Agy,ES fun j hj=>?_]
 ·simp;omega
 refine Agk ?_;rw[hrg j hj,(hfl j).1,(hfl (j-1)).1,(hfl j).2];have h4:=h2 j hj;rintro(h5|h5|⟨h0,h5⟩)
 ·cases h5
 ·omega
 ·have:=h4.2.2 h0;omega
theorem XZ {c:TC} {self len:Int} (h:OR c self len=0):(c.kind=1\/c.kind=2\/c.kind=3)/\(c.kind≠3->0<=c.peer/\c.peer<=31/\c.peer≠self):=by
 unfold OR at h
 split at h
 ·cases h
 ·rename_i h1
  split at h
  ·cases h
  ·split at h
   ·cases h
   ·rename_i h3;refine⟨by omega,fun h4=>?_⟩;simp only[not_or,not_and] at h3;have h5:=h3.2.2.1 h4;have h6:Ei c.peer=true:=by simpa using h5.1
    have h7:=AgI h6;exact⟨h7.1,by omega,h5.2⟩
def Sw (n:Int) (c:TC):Prop:=c=noC\/(c.kind=1\/c.kind=2\/c.kind=3)/\(c.kind≠3->0<=c.peer/\c.peer<=31/\c.peer≠n)
theorem Wz (t:Tb) (slot:Int) (h:Cl t=0):Sw t.node (atM t slot).1:=by
 unfold atM
 split
 ·exact .inl rfl
 ·split
  ·rename_i i hf;obtain⟨hi,_,_⟩:=BJ hf;refine .inr (XZ (len:=t.len) ?_);have hl:=Cn h;unfold Cl at h;rw[AgY (by rw[hl.2.2.2];simp;omega),AgY (by omega)] at h;have:=Ja h i hi;unfold K6 at this
   split at this
   ·rename_i h1;exact absurd this h1
   ·rename_i h1;simpa using h1
  ·exact .inl rfl
theorem Aax {t:Tb} (h:Cl t=0):0<=t.node/\t.node<=31:=by
 have:=AgI (Cn h).2.2.2;omega
def acF (a:Ac):Fr:=⟨a.BF,a.source,a.target,a.list,a.seq,a.Cb,a.number,a.err,a.slot,a.rank,a.epoch,a.data⟩
theorem WI {s:Sta} {slot:Int} {c:TC} (hck:AQ s=0) (hc:Sw s.tb.node c) (k1:(C2 s slot c).kind=1):
  okP (acF (C2 s slot c))/\(C2 s slot c).data.size<=100/\((C2 s slot c).BF=1\/(C2 s slot c).BF=4)/\(C2 s slot c).source=s.tb.node/\(c.send=true\/c.kind=3)/\(c.kind≠3->(C2 s slot c).target=c.peer):=by
 obtain⟨h1,h2,h3,h4,h5,h6,h7⟩:=Bf hck;have h7:=FH h7;have hn:=Aax h1;by_cases k2:(C2 s slot c).BF=1
 ·obtain⟨e1,e2,i,hf,_,_,ha⟩:=Nl k1 k2;obtain⟨hi,_,_⟩:=BJ hf;have hH:=(D8 h4).2 i hi;have hr:=DZ hH.1;have hp:0<=c.peer/\c.peer<=31/\c.peer≠s.tb.node:=by
   rcases hc with hc|hc
   ·rw[hc] at e1;cases e1
   ·exact hc.2 (by omega)
  rw[ha];refine⟨⟨⟨hn,⟨h7.1,h7.2.1⟩,?_,?_⟩,.inl ⟨rfl,hp,⟨hr.1,hr.2.1⟩,⟨hr.2.2.1,hr.2.2.2.1⟩,rfl,rfl,rfl,rfl⟩⟩,hH.2.1,.inl rfl,rfl,.inl e2,fun _=>rfl⟩
  ·show 0<=(s.held.getD i default).frame % 256;omega
  ·show(s.held.getD i default).frame % 256<=255;omega
 ·obtain⟨_,hm,ha,hk⟩:=Nk hck k1 k2;obtain⟨i,hi,he⟩:=E7 hm;have hfo:=RY (p:=Bz s c) (by rw[<-he];exact(El h2 hi).1);have hb:=AgJ (h3 _ hm);rw[ha];refine⟨⟨⟨hn,⟨h7.1,h7.2.1⟩,h7.2.2.1,h7.2.2.2.1⟩,.inr (.inr (.inr ⟨rfl,?_,rfl,rfl,rfl,rfl,rfl,rfl⟩))⟩,?_,.inr rfl,rfl,?_,fun k3=>?_⟩
  ·show(Bz s c).to=-1\/0<=(Bz s c).to/\(Bz s c).to<=31/\(Bz s c).to≠s.tb.node;omega
  ·show(Bz s c).data.size<=100;omega
  ·rcases hk with hk|hk
   ·exact .inl hk.2.1
   ·exact .inr hk.1
  ·rcases hk with hk|hk
   ·show(Bz s c).to=c.peer;have hs:Bz s c=(DS s.qu c.peer).1:=by rw[Bz,AgY k3]
    rw[hs];cases hf:Qn s.qu.Af c.peer with
    |none=>have:=hk.2.2;rw[Hy h2 hf] at this;cases this
    |some j=>
     rw[Hx h2 hf];obtain⟨_,hj,_⟩:=BJ hf;exact AgI hj
   ·exact absurd hk.1 k3
def upF (u:Up):Fr:=⟨u.BF,u.source,u.target,u.list,u.seq,u.Cb,u.number,u.err,u.slot,u.rank,u.epoch,u.data⟩
theorem AaQ {f:Fr} {n:Int} (h:Ua f n=true):okP f:=by
 unfold Ua at h;rw[Agt] at h;exact(IU f).1 (AgI h.1)
theorem XS {s:Sta} (f:Fr) (hck:AQ s=0):YA s (B7 s f).1/\((B7 s f).2.some=true->upF (B7 s f).2=f/\Ua f s.tb.node=true):=by
 obtain⟨h1,h2,h3,h4,h5,h6,h7⟩:=Bf hck;have hid:YA s s:=⟨hck,Ag0 _,rfl⟩;unfold B7
 split
 ·exact⟨hid,fun h=>by cases h⟩
 ·rename_i hn;have hf:Ua f s.tb.node=true:=by
   cases h:Ua f s.tb.node with
   |true=>rfl
   |false=>exact absurd (.inl h) hn
  have hok:=AaQ hf
  split
  ·exact⟨hid,fun _=>⟨rfl,hf⟩⟩
  ·split
   ·refine⟨⟨?_,Ag0 _,rfl⟩,fun _=>⟨rfl,hf⟩⟩;refine Cw h1 (D0 hck (List.Sublist.refl _) rfl rfl) h4 (Xj (fun x hx=>?_) (NG _ (NS h5))) h6 h7;rcases Q8 hx with rfl|hx
    ·exact⟨hok.1.1.1,hok.1.1.2,hok.1.2.2.1,hok.1.2.2.2⟩
    ·obtain⟨i,hi,rfl⟩:=E7 hx;have:=Mp h5 i hi;exact⟨this.1,this.2.1,this.2.2.1,this.2.2.2.1⟩
   ·exact⟨hid,fun _=>⟨rfl,hf⟩⟩
theorem Zf {s:Sta} {slot:Int} {c:TC} (hck:AQ s=0) (k2:(C2 s slot c).kind=2):YA s (L8 s c):=by
 obtain⟨h1,h2,h3,h4,h5,h6,h7⟩:=Bf hck;have h7:=FH h7;unfold L8
 split
 ·rename_i hw;have hw0:s.wait≠0:=by
   intro h0;unfold C2 at k2;rw[N9] at k2;unfold G1 at k2;rw[AgY (by omega),AgY (by omega),AgZ hw.2] at k2;unfold YM at k2;rw[AgZ ⟨hw.1,h0⟩] at k2;cases k2
  refine⟨Cw h1 (D0 hck (List.Sublist.refl _) rfl rfl) h4 h5 h6 (Agj ?_),Ag0 _,rfl⟩;show 0<=s.list/\s.list<=255/\0<=s.seq/\s.seq<=255/\0<=s.back/\s.back<=5/\0<=s.wait-1/\s.wait-1<=2^s.back.toNat-1/\0<=s.CY/\s.CY<=2147483647;have h8:=h7.2.2.2.2.2.2.1;have h9:=h7.2.2.2.2.2.2.2.1;generalize (2:Int)^s.back.toNat=pw at h9 ⊢;exact⟨h7.1,h7.2.1,h7.2.2.1,h7.2.2.2.1,h7.2.2.2.2.1,h7.2.2.2.2.2.1,by omega,by omega,h7.2.2.2.2.2.2.2.2.1,h7.2.2.2.2.2.2.2.2.2⟩
 ·exact⟨hck,Ag0 _,rfl⟩
theorem AdR {s:Sta} {slot:Int} {c:TC} (hck:AQ s=0) (hc:Sw s.tb.node c) (k1:(C2 s slot c).kind=1) (k2:(C2 s slot c).BF=1):YA s (Abt s (C2 s slot c)):=by
 obtain⟨h1,h2,h3,h4,h5,h6,h7⟩:=Bf hck;obtain⟨e1,e2,i,hf,_,_,ha⟩:=Nl k1 k2;have hp:0<=c.peer/\c.peer<=31/\c.peer≠s.tb.node:=by
  rcases hc with hc|hc
  ·rw[hc] at e1;cases e1
  ·exact hc.2 (by omega)
 have htg:(C2 s slot c).target=c.peer:=by rw[ha];rfl
 unfold Abt
 split
 ·exact⟨hck,Ag0 _,rfl⟩
 ·rename_i j hj;obtain⟨hi,_,_⟩:=BJ hj;have hr:=(DZ ((D8 h4).2 j hi).1).2.2.2.2.2.2;refine⟨Cw h1 (D0 hck (List.Sublist.refl _) rfl rfl) (VA h4 hi (SX (fun x hx=>?_) (NG _ (Mu fun k hk h0=>(GD hr k hk).2.2 h0)))) h5 h6 h7,Ag0 _,rfl⟩;rcases Q8 hx with rfl|hx
  ·rw[htg];exact⟨hp.1,hp.2.1⟩
  ·obtain⟨k,hk,rfl⟩:=E7 hx;have:=GD hr k hk;exact⟨this.1,this.2.1⟩
theorem V8 {s:Sta} {slot:Int} {c:TC} (r:Rs) (hck:AQ s=0) (hc:Sw s.tb.node c):
  YA s (CJ s slot c r).1/\((CJ s slot c r).2.some=true->(C2 s slot c).kind=2/\r.heard=true/\upF (CJ s slot c r).2=KW r/\Ua (KW r) s.tb.node=true):=by
 have hid:YA s s:=⟨hck,Ag0 _,rfl⟩;unfold CJ
 split
 ·rename_i hk
  split
  ·exact⟨AdR hck hc hk.1 hk.2,fun h=>by cases h⟩
  ·exact⟨hid,fun h=>by cases h⟩
 ·rename_i hk
  split
  ·rename_i k1;exact⟨Xb _ hck (Nk hck k1 (fun k2=>hk ⟨k1,k2⟩)).2.1,fun h=>by cases h⟩
  ·split
   ·rename_i k2;have hw:=Zf hck k2
    split
    ·rename_i hh;have hq:=XS (KW r) hw.1;refine⟨⟨hq.1.1,Aha hq.1.2.1 hw.2.1,hq.1.2.2.trans hw.2.2⟩,fun h=>?_⟩;have:=hq.2 h;rw[hw.2.2] at this;exact⟨k2,hh,this⟩
    ·exact⟨hw,fun h=>by cases h⟩
   ·exact⟨hid,fun h=>by cases h⟩
end Go.Proofs
end
section
namespace Go.Proofs.M
open Go Go.Sx Go.Proofs Go.Proofs.T Go.Proofs.Q
open Go.Proofs.P (Nb nbs Rk rkA rkErr checkNb hearM countM forgetM select')
open Go.Proofs.R (startM advM)
theorem NQ {s:Sta} (h1:Cl s.tb=0) (h2:C4 s=true) (h3:Gn s.held=true) (h4:Hp s.seen=true) (h5:(s.Bl=-1/\s.tries=0)\/(0<=s.Bl/\1<=s.tries/\s.tries<4)) (h6:S4 s=true):
  AQ (DI s)=0/\(DI s).tb=s.tb/\(DI s).qu=s.qu:=by
 unfold DI
 split
 ·exact⟨Cw h1 h2 h3 h4 (Agj (.inl ⟨rfl,rfl⟩)) h6,rfl,rfl⟩
 ·rename_i hn;refine⟨Cw h1 h2 h3 h4 (Agj ?_) h6,rfl,rfl⟩;rcases h5 with h5|h5
  ·exact .inl h5
  ·refine .inr ⟨h5.1,?_,h5.2⟩;cases hh:hasB s.qu.Af s.Bl with
   |true=>rfl
   |false=>exact absurd ⟨h5.1,hh⟩ hn
theorem NI {s:Sta} (h:Iz s=true):(s.Bl=-1/\s.tries=0)\/(0<=s.Bl/\1<=s.tries/\s.tries<4):=by
 have h:=AgI h;rcases h with h|h
 ·exact .inl h
 ·exact .inr ⟨h.1,h.2.2⟩
theorem OI {l:List Hd} (h:Gn l=true) (p:Hd->Bool):Gn (l.filter p)=true:=by
 obtain⟨h1,h2⟩:=D8 h;have hr:Nr Hd.Cb l:=Vz h;have hr2:Nr Hd.Cb (l.filter p):=UR ((UN hr).filter _);have hle:(l.filter p).length<=l.length:=AgS _ _;unfold Gn;rw[ES fun i hi=>?_,Agj (show(((l.filter p).length:Nat):Int)<=16 by omega)]
 ·rfl
 refine Agk ?_;obtain⟨k,hk,e⟩:=E7 (AgR.1 (CU hi)).1;have h3:=h2 k hk;rw[e] at h3;rintro(h4|h4|⟨h0,h4⟩)
 ·rw[h3.1] at h4;cases h4
 ·omega
 ·have:=hr2 (i-1) i (by omega) hi;omega
theorem QH {s:Sta} {slot:Int} (hck:AQ s=0) (hs:0<=slot/\slot<=109951162):(Cv s slot).2.2=0/\AQ (Cv s slot).1=0/\(Cv s slot).1.tb=s.tb/\(Cv s slot).1.qu.Af=RW s.qu.Af slot:=by
 obtain⟨h1,h2,h3,h4,h5,h6,h7⟩:=Bf hck;unfold Cv;rw[AgY (by omega),AgY (by omega)];have hq:(C1 s.qu slot).1=⟨s.qu.Bk,RW s.qu.Af slot⟩:=by unfold C1;rw[AgY (by omega)]
 have hp:C4 {s with held:=s.held.filter fun h=>!decide (h.til<slot),qu:=(C1 s.qu slot).1}=true:=D0 hck (List.filter_sublist) rfl hq;obtain⟨r1,r2,r3⟩:=NQ (s:={s with held:=s.held.filter fun h=>!decide (h.til<slot),qu:=(C1 s.qu slot).1}) h1 hp (OI h4 _) h5 (NI (s:=s) h6) h7;refine⟨rfl,r1,r2,?_⟩;show(DI _).qu.Af=_;rw[r3,hq]
theorem P5 {s:Sta} {p:Pk} (hck:AQ s=0) (h0:(I3 s p).2.2=0):AQ (I3 s p).1=0/\(I3 s p).1.tb=s.tb/\(I3 s p).1.qu=(EW s.qu p).1:=by
 obtain⟨h1,h2,h3,h4,h5,h6,h7⟩:=Bf hck;unfold I3 at h0 ⊢;rw[AgY (by omega)] at h0 ⊢;by_cases e1:(EW s.qu p).2.2=0
 ·rw[AgY (by omega)] at h0 ⊢;by_cases e2:p.to=s.tb.node
  ·rw[AgZ e2] at h0;cases h0
  ·rw[AgY e2] at h0 ⊢;by_cases e3:100<p.data.size
   ·rw[AgZ e3] at h0;cases h0
   ·rw[AgY e3];have hq:=Q.Aam h2 e1;have hlim:=hq.2.1;have hcq:Br (EW s.qu p).1=0:=by
     have:=N8 hq.2.2.1;rw[<-hlim] at this;exact this
    have hp:C4 {s with qu:=(EW s.qu p).1}=true:=by
     unfold C4;rw[show({s with qu:=(EW s.qu p).1}:Sta).qu=(EW s.qu p).1 from rfl,hcq,AgC.2 fun x hx=>?_]
     ·rfl
     ·rcases Rw h2 e1 hx with rfl|hx
      ·show ¬WT s.tb.node x=true;unfold WT;simp only[Agl];omega
      ·rw[show({s with qu:=(EW s.qu p).1}:Sta).tb=s.tb from rfl,h3 x hx];simp
    have:=NQ (s:={s with qu:=(EW s.qu p).1}) h1 hp h4 h5 (NI (s:=s) h6) h7;exact⟨this.1,this.2.1,this.2.2⟩
 ·rw[AgZ e1] at h0;exact absurd h0 e1
theorem JL {s:Sta} {slot:Int} (r:Rs) (hck:AQ s=0) (hs:0<=slot/\slot<=109951162):EZ s slot r=((CJ s slot (atM s.tb slot).1 r).1,(CJ s slot (atM s.tb slot).1 r).2,0) /\
  YA s (CJ s slot (atM s.tb slot).1 r).1:=by
 refine⟨?_,(V8 r hck (Wz s.tb slot (Bf hck).1)).1⟩;unfold EZ;rw[AgY (by omega),AgY (by omega)]
theorem Xr {s:Sta} {old new:Int} (hck:AQ s=0) (hn:-1<=new/\new<=31) (hne:new≠s.tb.node):AQ {s with qu:=⟨s.qu.Bk,s.qu.Af.map (Eg old new)⟩}=0:=by
 obtain⟨h1,h2,h3,h4,h5,h6,h7⟩:=Bf hck;have hid:∀p,(Eg old new p).id=p.id/\(Eg old new p).prio=p.prio/\(Eg old new p).data=p.data:=fun p=>by unfold Eg;split<;>exact⟨rfl,rfl,rfl⟩
 have hok:=U3 h2;have hcq:Br ⟨s.qu.Bk,s.qu.Af.map (Eg old new)⟩=0:=by
  refine N8 ⟨hok.bnd,by rw[Agz];exact hok.len,fun x hx=>?_,?_⟩
  ·obtain⟨p,hp,rfl⟩:=AgT.1 hx;have hf:=hok.form p hp;unfold Eg
   split
   ·rename_i ht;unfold Ft at hf ⊢;by_cases hnn:p.id<0\/inI p.to (-1) 31=false\/inI p.prio 0 3=false\/inI p.born 0 1099511627776=false\/inI p.AaB 1 4096=false
    ·rw[AgZ hnn] at hf;cases hf
    ·rw[AgY hnn] at hf;rw[AgY]
     ·exact hf
     ·rintro(g|g|g)
      ·exact hnn (.inl g)
      ·have:inI new (-1) 31=true:=Agj hn;rw[show inI ({p with to:=new}:Pk).to (-1) 31=inI new (-1) 31 from rfl,this] at g;cases g
      ·exact hnn (.inr (.inr g))
   ·exact hf
  ·rw[List.pairwise_map];exact hok.pair.imp fun{a b} h=>by rw[(hid a).1,(hid b).1,(hid a).2.1,(hid b).2.1];exact h
 refine Cw h1 ?_ h4 h5 ?_ h7
 ·unfold C4;rw[show({s with qu:=⟨s.qu.Bk,s.qu.Af.map (Eg old new)⟩}:Sta).qu=⟨s.qu.Bk,s.qu.Af.map (Eg old new)⟩ from rfl,hcq,AgC.2 fun x hx=>?_]
  ·rfl
  ·obtain⟨p,hp,rfl⟩:=AgT.1 hx;have:=AgJ (h3 p hp);show ¬WT s.tb.node (Eg old new p)=true;unfold WT;simp only[Agl];rw[(hid p).2.2];unfold Eg
   split
   ·show ¬(new=_\/_);omega
   ·omega
 ·have h6:=AgI h6;refine Agj ?_;rcases h6 with h6|h6
  ·exact .inl h6
  ·refine .inr ⟨h6.1,?_,h6.2.2⟩;show hasB (s.qu.Af.map (Eg old new)) s.Bl=true;rw[<-h6.2.1];unfold hasB;rw[List.any_map]
   congr 1
   funext p
   exact decide_eq_decide.2 (by show(Eg old new p).id=_↔_;rw[(hid p).1])
structure RN (n:Nat) (T:Tb) (i:Nat) (x:MN):Prop where
 st:AQ x.st=0
 nd:x.st.tb.node=i
 len:x.st.tb.len=T.len
 sp:G7 x.st.tb=G7 T
 rk:rkErr x.rk=0
 rn:x.rk.node=i
 rp:x.rk.parent<n
 nb:checkNb x.nb=0
 nn:∀y∈x.nb,y.node<n
 nx:0<=x.next/\x.next<=65535
theorem IF {m:Me} {i:Nat}:FZ m i=true↔RN m.nodes.length (m.nodes.getD 0 default).st.tb i (m.nodes.getD i default):=by
 unfold FZ;simp only[Agt,Agl,Bool.not_eq_true',AgC];constructor
 ·rintro⟨⟨⟨⟨a1,a2,a3,a4⟩,b1,b2,b3,b4⟩,c⟩,d⟩;exact⟨a1,a2,a3,a4,b1,b2,b3,b4,fun y hy=>by have:=c y hy;omega,d⟩
 ·intro h;exact⟨⟨⟨⟨h.st,h.nd,h.len,h.sp⟩,h.rk,h.rn,h.rp,h.nb⟩,fun y hy=>by have:=h.nn y hy;omega⟩,h.nx⟩
structure Hdr (m:Me):Prop where
 n1:1<=m.nodes.length
 n2:m.nodes.length<=32
 s1:0<=m.slot
 s2:m.slot<=16384
 t1:1<=m.turns
 t2:m.turns<=32
 a1:m.arr.length<=4096
theorem C7 {m:Me}:BX m=0↔Hdr m/\∀i,i<m.nodes.length->RN m.nodes.length (m.nodes.getD 0 default).st.tb i (m.nodes.getD i default):=by
 unfold BX;constructor
 ·intro h
  split at h
  ·cases h
  ·rename_i hn
   split at h
   ·cases h
   ·rename_i ha;refine⟨⟨by omega,by omega,by omega,by omega,by omega,by omega,by omega⟩,fun i hi=>?_⟩;rw[<-IF];rw[AgU,AgC] at ha;have:=ha i (AgQ.2 hi);simpa using this
 ·rintro⟨h,hr⟩;have:=h.n1;have:=h.n2;have:=h.s1;have:=h.s2;have:=h.t1;have:=h.t2;have:=h.a1;rw[AgY (by omega),AgY];rw[AgU,AgC];intro i hi;rw[IF.2 (hr i (AgQ.1 hi))];simp
theorem RN.Xh {n:Nat} {T:Tb} {i:Nat} {x:MN} (h:RN n T i x) {s:Sta} (hc:AQ s=0) (ht:s.tb=x.st.tb):RN n T i {x with st:=s}:=
 ⟨hc,by show s.tb.node=_;rw[ht];exact h.nd,by show s.tb.len=_;rw[ht];exact h.len,by show G7 s.tb=_;rw[ht];exact h.sp,h.rk,h.rn,h.rp,h.nb,h.nn,h.nx⟩
theorem Y0 {n:Nat} {T:Tb} {i:Nat} {x:MN} {slot:Int} (h:RN n T i x) (hs:0<=slot/\slot<=109951162):RN n T i (Jb slot x):=by
 obtain⟨h1,h2,h3,_⟩:=QH h.st hs;unfold Jb;rw[AgZ h1];exact h.Xh h2 h3
theorem VI {n:Nat} {T:Tb} {i:Nat} {x:MN} {slot:Int} (d:ByteArray) (h:RN n T i x):RN n T i (EY slot x d):=by
 unfold EY
 split
 ·exact h
 ·split
  ·rename_i h0;obtain⟨h1,h2,_⟩:=P5 h.st h0;have:=h.Xh h1 h2;have hx:=h.nx;exact⟨this.st,this.nd,this.len,this.sp,h.rk,h.rn,h.rp,h.nb,h.nn,by show 0<=(x.next+1) % 65536/\(x.next+1) % 65536<=65535;omega⟩
  ·exact h
theorem VJ (slot:Int) (x:MN) (d:ByteArray):(EY slot x d).rk=x.rk/\(EY slot x d).nb=x.nb:=by
 unfold EY
 split
 ·exact⟨rfl,rfl⟩
 ·split<;>exact⟨rfl,rfl⟩
theorem Ads (slot:Int) (x:MN):(Jb slot x).rk=x.rk/\(Jb slot x).nb=x.nb:=by
 unfold Jb
 split<;>exact⟨rfl,rfl⟩
theorem Ko {n:Nat} {T:Tb} {i:Nat} {slot j:Int}:∀(ls:List Ld) {x:MN},RN n T i x->RN n T i (CF slot j ls x)
 |[],_,h=>h
 |l :: ls,x,h=>by
  unfold CF
  split
  ·exact Ko ls (VI _ h)
  ·exact Ko ls h
theorem Qd (slot j:Int):∀(ls:List Ld) (x:MN),(CF slot j ls x).rk=x.rk/\(CF slot j ls x).nb=x.nb
 |[],_=>⟨rfl,rfl⟩
 |l :: ls,x=>by
  unfold CF
  split
  ·have h1:=Qd slot j ls (EY slot x (G2 j x.next));have h2:=VJ slot x (G2 j x.next);exact⟨h1.1.trans h2.1,h1.2.trans h2.2⟩
  ·exact Qd slot j ls x
theorem AdP {n:Nat} {T:Tb} {i:Nat} {x:MN} {slot turns:Int} (h:RN n T i x):RN n T i (DF slot turns x).1:=by
 unfold DF
 split
 ·rename_i hd;have hk:x.rk.rank≠65535:=fun e=>by
   have:=hd.2;unfold advM at this;rw[AgY (by have:=h.rk;omega),AgZ e] at this;cases this
  obtain⟨_,a2,_,_,_,a6⟩:=R.So h.rk hk;refine⟨h.st,h.nd,h.len,h.sp,a6,?_,?_,h.nb,h.nn,h.nx⟩
  ·show(advM x.rk).1.node=_;rw[a2];exact h.rn
  ·show(advM x.rk).1.parent<_;rw[a2];exact h.rp
 ·exact h
theorem Ss {n:Nat} {T:Tb} {i:Nat} {x:MN} {slot turns:Int} (h:RN n T i x) (hi:i<=31) (hs:0<=slot/\slot<=109951162) (k1:(DF slot turns x).2.1.kind=1):
  (DF slot turns x).2.1.source=i/\Ib (T5 (DF slot turns x).2.1)=0/\((DF slot turns x).2.1.BF=3↔(DF slot turns x).2.2=true) /\
   ((DF slot turns x).2.2=true->(DF slot turns x).2.1.target=-1/\T5 (DF slot turns x).2.1=bcF x.rk slot/\x.rk.rank≠65535):=by
 unfold DF at k1 ⊢
 split
 ·rename_i hd;have hk:x.rk.rank≠65535:=fun e=>by
   have:=hd.2;unfold advM at this;rw[AgY (by have:=h.rk;omega),AgZ e] at this;cases this
  obtain⟨_,_,a3,a4,a5,_⟩:=R.So h.rk hk;have hb:=Y5 (src:=i) (slot:=slot.toNat) (rank:=x.rk.rank.toNat) (epoch:=x.rk.epoch.toNat) (d:=Aas false) hi (by omega) (by omega) (by omega);have e:bcn i slot.toNat x.rk.rank.toNat x.rk.epoch.toNat (Aas false)=bcF x.rk slot:=by
   unfold bcn bcF;rw[h.rn,show((slot.toNat:Nat):Int)=slot by omega,show((x.rk.rank.toNat:Nat):Int)=x.rk.rank by omega,show((x.rk.epoch.toNat:Nat):Int)=x.rk.epoch by omega]
  rw[e] at hb;exact⟨h.rn,hb,⟨fun _=>rfl,fun _=>rfl⟩,fun _=>⟨rfl,rfl,hk⟩⟩
 ·rename_i hd;rw[AgY hd] at k1;dsimp only at k1 ⊢;have ha:Py x.st slot=(C2 x.st slot (atM x.st.tb slot).1,0):=by
   unfold Py;rw[AgY (by have:=h.st;omega),AgY (by omega)]
  rw[ha] at k1 ⊢;obtain⟨f1,f2,f3,f4,_⟩:=WI h.st (Wz x.st.tb slot (Bf h.st).1) k1;refine⟨f4.trans h.nd,(IU _).2 f1,⟨fun h3=>?_,fun h3=>(by cases h3)⟩,fun h3=>(by cases h3)⟩;dsimp only at h3;rcases f3 with f3|f3<;>omega
theorem Ej (f:Wk->Wk):∀(l:List Wk) (arr:List Ar),Bu (fun a w=>(a,f w)) arr l=(arr,l.map f)
 |[],_=>rfl
 |w :: l,arr=>by
  unfold Bu;rw[Ej f l arr];rfl
theorem Ct {α:Type} [Inhabited α] {n i:Nat} (f:Nat->α) (h:i<n):((List.range n).map f).getD i default=f i:=by
 simp[Agi,h]
theorem OY {α:Type} [Inhabited α] {l:List α} {n:Nat} {f:Nat->α} (hl:l.length=n) (h:∀i,i<n->l.getD i default=f i):l=(List.range n).map f:=by
 refine List.ext_getElem (by simp[hl]) fun i h1 h2=>?_
 have:=h i (by omega);rw[Agi,Agr h1] at this;simpa using this
def NZ (m:Me) (loads:List Ld) (i:Nat):MN:=CF m.slot i loads (Jb m.slot (m.nodes.getD i default))
def wk1 (m:Me) (loads:List Ld) (i:Nat):Wk:=⟨(DF m.slot m.turns (NZ m loads i)).1,i,(DF m.slot m.turns (NZ m loads i)).2.1,(DF m.slot m.turns (NZ m loads i)).2.2,zRs,zUp⟩
theorem N0 (m:Me) (loads:List Ld):Fk m loads=(List.range m.nodes.length).map (wk1 m loads):=by
 have e1:=Ej (fun w=>{w with nd:=Jb m.slot w.nd}) (Dc m) [];have e2:=Ej (fun w=>{w with nd:=CF m.slot w.node loads w.nd}) ((Dc m).map fun w=>{w with nd:=Jb m.slot w.nd}) [];have e3:=Ej (fun w=>{w with nd:=(DF m.slot m.turns w.nd).1,ac:=(DF m.slot m.turns w.nd).2.1,bc:=w.bc||(DF m.slot m.turns w.nd).2.2}) (((Dc m).map fun w=>{w with nd:=Jb m.slot w.nd}).map fun w=>{w with nd:=CF m.slot w.node loads w.nd}) [];show(Bu (fun a w=>(a,{w with nd:=(DF m.slot m.turns w.nd).1,ac:=(DF m.slot m.turns w.nd).2.1,bc:=w.bc||(DF m.slot m.turns w.nd).2.2})) [] (Bu (fun a w=>(a,{w with nd:=CF m.slot w.node loads w.nd})) [] (Bu (fun a w=>(a,{w with nd:=Jb m.slot w.nd})) [] (Dc m)).2).2).2=_;rw[e1];show(Bu (fun a w=>(a,{w with nd:=(DF m.slot m.turns w.nd).1,ac:=(DF m.slot m.turns w.nd).2.1,bc:=w.bc||(DF m.slot m.turns w.nd).2.2})) [] (Bu (fun a w=>(a,{w with nd:=CF m.slot w.node loads w.nd})) [] ((Dc m).map fun w=>{w with nd:=Jb m.slot w.nd})).2).2=_;rw[e2];show(Bu (fun a w=>(a,{w with nd:=(DF m.slot m.turns w.nd).1,ac:=(DF m.slot m.turns w.nd).2.1,bc:=w.bc||(DF m.slot m.turns w.nd).2.2})) [] (((Dc m).map fun w=>{w with nd:=Jb m.slot w.nd}).map fun w=>{w with nd:=CF m.slot w.node loads w.nd})).2=_;rw[e3];unfold Dc;simp only[List.map_map]
 rfl
def F2 (sil:List Si) (slot:Int) (X:List Wk) (i:Nat):Option Nat:=
 if(X.getD i default).ac.kind≠2 then none else match Bv sil slot X i with
  |[j]=>some j
  |_=>none
def WU (sil:List Si) (slot:Int) (X:List Wk) (i j:Nat):Bool:=
 decide (F2 sil slot X i=some j)&&decide ((X.getD j default).ac.target=(X.getD i default).node)&&Ha sil (X.getD i default).node (X.getD j default).node slot
def rsK (sil:List Si) (slot:Int) (X:List Wk) (k j:Nat):Rs:=
 if(X.getD j default).ac.kind=2 then
  match (if j<k then F2 sil slot X j else none) with
  |some s=>YX (T5 (X.getD s default).ac)
  |none=>(X.getD j default).rs
 else{(X.getD j default).rs with AT:=(X.getD j default).rs.AT||(List.range k).any fun i=>WU sil slot X i j}
theorem Kx {sil:List Si} {slot:Int} {X:List Wk} {i j:Nat} (h:F2 sil slot X i=some j):(X.getD i default).ac.kind=2/\j<X.length/\(X.getD j default).ac.kind=1/\j≠i:=by
 unfold F2 at h
 split at h
 ·cases h
 ·rename_i hk
  split at h
  ·rename_i q hs;injection h with h
   subst h;have hm:q∈Bv sil slot X i:=by rw[hs];simp
   unfold Bv at hm;rw[AgR,AgQ] at hm;simp only[Agt,Agl] at hm;exact⟨by omega,hm.1,hm.2.1.1.2,hm.2.1.1.1⟩
  ·cases h
structure Su (X Y:List Wk):Prop where
 len:Y.length=X.length
 at':∀j,(Y.getD j default).ac=(X.getD j default).ac/\(Y.getD j default).node=(X.getD j default).node
theorem Su.Aae {X Y:List Wk} (h:Su X Y) (sil:List Si) (slot:Int) (i:Nat):Bv sil slot Y i=Bv sil slot X i:=by
 unfold Bv;rw[h.len];refine List.filter_congr fun j _=>?_
 rw[(h.at' j).1,(h.at' j).2,(h.at' i).1,(h.at' i).2]
theorem Lf (sil:List Si) (slot:Int) (X:List Wk) (i:Nat):Ci sil slot X i=match F2 sil slot X i with
  |some j=>DM sil slot X i j
  |none=>X:=by
 unfold Ci F2
 split
 ·rfl
 ·split<;>simp_all
theorem Abx {X:List Wk} {i j:Nat} {w:Wk} (hi:i<X.length):(X.set i w).getD j default=if j=i then w else X.getD j default:=by
 by_cases h:j=i
 ·subst h;simp[Agi,hi]
 ·simp[Agi,h,AgG (Ne.symm h)]
theorem Ou (sil:List Si) (slot:Int) (X:List Wk):∀k,k<=X.length->Su X (D2 sil slot X k)/\∀j,j<X.length->(D2 sil slot X k).getD j default={X.getD j default with rs:=rsK sil slot X k j}
 |0,_=>by
  refine⟨⟨rfl,fun j=>⟨rfl,rfl⟩⟩,fun j hj=>?_⟩;show X.getD j default=_;have e:rsK sil slot X 0 j=(X.getD j default).rs:=by
   unfold rsK;by_cases h2:(X.getD j default).ac.kind=2
   ·rw[AgZ h2,AgY (AgW _)]
   ·rw[AgY h2,List.range_zero,List.any_nil,Bool.or_false]
  rw[e]
 |k+1,hk=>by
  obtain⟨hs,hat⟩:=Ou sil slot X k (by omega);have hsnd:=hs.Aae sil slot k;have hh:F2 sil slot (D2 sil slot X k) k=F2 sil slot X k:=by
   unfold F2;rw[hsnd,(hs.at' k).1]
  show Su X (Ci sil slot (D2 sil slot X k) k)/\∀j,j<X.length->(Ci sil slot (D2 sil slot X k) k).getD j default=_;rw[Lf,hh];have hstep:∀j,rsK sil slot X (k+1) j=if(X.getD j default).ac.kind=2 then(if j=k then(match F2 sil slot X k with|some s=>YX (T5 (X.getD s default).ac)|none=>(X.getD j default).rs) else rsK sil slot X k j)
    else{rsK sil slot X k j with AT:=(rsK sil slot X k j).AT||WU sil slot X k j}:=by
   intro j;by_cases h2:(X.getD j default).ac.kind=2
   ·rw[AgZ h2];unfold rsK;rw[AgZ h2,AgZ h2];by_cases hj:j=k
    ·subst hj;rw[AgZ (by omega),AgZ rfl]
    ·rw[AgY hj];by_cases hj2:j<k
     ·rw[AgZ (by omega),AgZ hj2]
     ·rw[AgY (by omega),AgY hj2]
   ·rw[AgY h2];unfold rsK;rw[AgY h2,AgY h2,List.range_succ,List.any_append];simp[Bool.or_assoc]
  cases hr:F2 sil slot X k with
  |none=>
   refine⟨hs,fun j hj=>?_⟩;dsimp only;rw[hat j hj,hstep j];have ha:WU sil slot X k j=false:=by unfold WU;rw[hr];simp
   rw[ha,hr];by_cases h2:(X.getD j default).ac.kind=2
   ·rw[AgZ h2];by_cases hj2:j=k
    ·rw[AgZ hj2];have:rsK sil slot X k j=(X.getD j default).rs:=by unfold rsK;rw[AgZ h2,AgY (by omega)]
     rw[this]
    ·rw[AgY hj2]
   ·rw[AgY h2,Bool.or_false]
  |some q=>
   obtain⟨a1,a2,a3,a4⟩:=Kx hr;have hkl:k<(D2 sil slot X k).length:=by rw[hs.len];omega
   have hql:q<(D2 sil slot X k).length:=by rw[hs.len];omega
   dsimp only;have key:∀j,j<X.length->(DM sil slot (D2 sil slot X k) k q).getD j default={X.getD j default with rs:=rsK sil slot X (k+1) j}/\(DM sil slot (D2 sil slot X k) k q).length=X.length:=by
    intro j hj;unfold DM;rw[(hs.at' q).1,(hs.at' k).2,(hs.at' q).2];have hrk:∀jj,rsK sil slot X k q={(X.getD q default).rs with AT:=(rsK sil slot X k q).AT}:=fun _=>by unfold rsK;rw[AgY (by omega)]
    rw[hstep j]
    split
    ·rename_i hc;have hab:WU sil slot X k q=true:=by unfold WU;rw[Agj hr,Agj hc.1,hc.2];rfl
     refine⟨?_,by simp[hs.len]⟩;rw[Abx (by simpa using hql),hat q (by omega),hat k (by omega)];by_cases e1:j=q
     ·subst e1;rw[AgZ rfl,AgY (by omega),hab];simp
     ·rw[AgY e1,Abx hkl];by_cases e2:j=k
      ·subst e2;rw[AgZ rfl,AgZ a1,AgZ rfl,hr]
      ·rw[AgY e2,hat j hj,AgY e2];by_cases h2:(X.getD j default).ac.kind=2
       ·rw[AgZ h2]
       ·rw[AgY h2];have:WU sil slot X k j=false:=by unfold WU;rw[hr];simp[Ne.symm e1]
        rw[this,Bool.or_false]
    ·rename_i hc;refine⟨?_,by simp[hs.len]⟩;rw[Abx hkl,hat k (by omega)];by_cases e2:j=k
     ·subst e2;rw[AgZ rfl,AgZ a1,AgZ rfl,hr]
     ·rw[AgY e2,hat j hj,AgY e2];by_cases h2:(X.getD j default).ac.kind=2
      ·rw[AgZ h2]
      ·rw[AgY h2];have:WU sil slot X k j=false:=by
        unfold WU;rw[hr];by_cases e1:j=q
        ·subst e1;by_cases hh1:(X.getD j default).ac.target=(X.getD k default).node
         ·have:Ha sil (X.getD k default).node (X.getD j default).node slot=false:=by
           cases hx:Ha sil (X.getD k default).node (X.getD j default).node slot with
           |true=>exact absurd ⟨hh1,hx⟩ hc
           |false=>rfl
          rw[this,Bool.and_false]
         ·rw[Agk hh1];simp
        ·simp[Ne.symm e1]
       rw[this,Bool.or_false]
   refine⟨⟨(key 0 (by omega)).2,fun j=>?_⟩,fun j hj=>(key j hj).1⟩;by_cases hj:j<X.length
   ·rw[(key j hj).1];exact⟨rfl,rfl⟩
   ·have hl:=(key 0 (by omega)).2;rw[Agi,Agi,AgO (by omega),AgO (by omega)];exact⟨rfl,rfl⟩
theorem AaO (slot:Int) (a b:List Ar) (w:Wk):(F6 slot a w).2=(F6 slot b w).2:=by
 unfold F6
 split
 ·rfl
 ·split<;>rfl
theorem Oo (slot:Int):∀(l:List Wk) (arr:List Ar),(Bu (F6 slot) arr l).2=l.map fun w=>(F6 slot [] w).2
 |[],_=>rfl
 |w :: l,arr=>by
  unfold Bu;rw[Oo slot l,AaO slot arr []];rfl
theorem AaP {slot:Int} {arr:List Ar} {w:Wk} (h:w.node≠0):(F6 slot arr w).1=arr:=by
 unfold F6
 split
 ·rfl
 ·first|rfl|(rw[AgZ h])
theorem Oq (slot:Int):∀(l:List Wk) (arr:List Ar),(∀w∈l,w.node≠0)->(Bu (F6 slot) arr l).1=arr
 |[],_,_=>rfl
 |w :: l,arr,h=>by
  unfold Bu;rw[Oq slot l _ fun x hx=>h x (by simp[hx])];exact AaP (h w (by simp))
def wk2 (m:Me) (loads:List Ld) (sil:List Si) (i:Nat):Wk:={wk1 m loads i with rs:=rsK sil m.slot (Fk m loads) m.nodes.length i}
def wk3 (m:Me) (loads:List Ld) (sil:List Si) (i:Nat):Wk:=Eh (Cu m.slot (BL m.slot (wk2 m loads sil i)))
def K9 (m:Me) (loads:List Ld) (sil:List Si) (i:Nat):MN:=DT m.slot (F6 m.slot [] (wk3 m loads sil i)).2.nd
theorem LA (m:Me) (loads:List Ld):(Fk m loads).length=m.nodes.length:=by rw[N0];simp
theorem HT (m:Me) (loads:List Ld) {i:Nat} (hi:i<m.nodes.length):(Fk m loads).getD i default=wk1 m loads i:=by rw[N0];exact Ct _ hi
theorem UX (m:Me) (loads:List Ld) (sil:List Si):F0 m loads sil=(List.range m.nodes.length).map (wk2 m loads sil):=by
 have hl:=LA m loads;obtain⟨h1,h2⟩:=Ou sil m.slot (Fk m loads) m.nodes.length (by omega);refine OY (h1.len.trans hl) fun i hi=>?_
 show(D2 sil m.slot (Fk m loads) m.nodes.length).getD i default=_;rw[h2 i (by omega),HT m loads hi];rfl
theorem U8 (slot:Int) (w:Wk):(Eh (Cu slot (BL slot w))).node=w.node:=by
 have h1:(BL slot w).node=w.node:=by
  unfold BL
  split
  ·rfl
  ·split<;>rfl
 have h2:(Cu slot (BL slot w)).node=w.node:=by
  unfold Cu
  split<;>exact h1
 unfold Eh
 split<;>exact h2
theorem WY (m:Me) (loads:List Ld) (sil:List Si) (i:Nat):(wk3 m loads sil i).node=i:=U8 _ _
theorem HS (m:Me) (loads:List Ld) (sil:List Si):(EI m loads sil).2=(List.range m.nodes.length).map (fun i=>(F6 m.slot [] (wk3 m loads sil i)).2) /\
  (EI m loads sil).1=if 0<m.nodes.length then(F6 m.slot m.arr (wk3 m loads sil 0)).1 else m.arr:=by
 have e1:=Ej (BL m.slot) (F0 m loads sil) [];have e2:=Ej (fun w=>Eh (Cu m.slot w)) ((F0 m loads sil).map (BL m.slot)) [];have e:EI m loads sil=Bu (F6 m.slot) m.arr ((List.range m.nodes.length).map (wk3 m loads sil)):=by
  show Bu (F6 m.slot) m.arr (Bu (fun a w=>(a,Eh (Cu m.slot w))) [] (Bu (fun a w=>(a,BL m.slot w)) [] (F0 m loads sil)).2).2=_;rw[e1];show Bu (F6 m.slot) m.arr (Bu (fun a w=>(a,Eh (Cu m.slot w))) [] ((F0 m loads sil).map (BL m.slot))).2=_;rw[e2,UX];simp only[List.map_map]
  rfl
 rw[e];refine⟨?_,?_⟩
 ·rw[Oo,List.map_map];rfl
 ·by_cases h0:0<m.nodes.length
  ·rw[AgZ h0];obtain⟨n,hn⟩:∃n,m.nodes.length=n+1:=⟨m.nodes.length-1,by omega⟩;rw[hn,List.range_succ_eq_map,List.map_cons,List.map_map];unfold Bu;refine Oq _ _ _ fun w hw=>?_
   obtain⟨i,_,rfl⟩:=AgT.1 hw;show(wk3 m loads sil (i+1)).node≠0;rw[WY];omega
  ·have:m.nodes.length=0:=by omega
   rw[AgY h0,this];rfl
def Yp (m:Me) (loads:List Ld) (sil:List Si):List Ar:=(EI m loads sil).1
theorem GA (m:Me) (loads:List Ld) (sil:List Si):Cz m loads sil=⟨(List.range m.nodes.length).map (K9 m loads sil),m.slot+1,m.turns,Yp m loads sil⟩:=by
 have e:=Ej (fun w=>{w with nd:=DT m.slot w.nd}) (EI m loads sil).2 [];show(⟨((Bu (fun a w=>(a,{w with nd:=DT m.slot w.nd})) [] (EI m loads sil).2).2).map (·.nd),m.slot+1,m.turns,(EI m loads sil).1⟩:Me)=_;rw[e,(HS m loads sil).1];simp only[List.map_map]
 rfl
theorem Rz {m:Me} {loads:List Ld} {T:Tb} {i:Nat} (h:RN m.nodes.length T i (m.nodes.getD i default)) (hs:0<=m.slot/\m.slot<=109951162):RN m.nodes.length T i (NZ m loads i):=Ko _ (Y0 h hs)
theorem Jr {m:Me} {loads:List Ld} {sil:List Si} {i:Nat} (hi:i<m.nodes.length) (h:(wk2 m loads sil i).rs.heard=true):
  ∃j,j<m.nodes.length/\(wk1 m loads j).ac.kind=1/\AcC (wk2 m loads sil i).rs=T5 (wk1 m loads j).ac/\(wk1 m loads i).ac.kind=2:=by
 have hl:=LA m loads;have hz:(wk1 m loads i).rs=zRs:=rfl;have e:(wk2 m loads sil i).rs=rsK sil m.slot (Fk m loads) m.nodes.length i:=rfl;rw[e] at h ⊢;unfold rsK at h ⊢;rw[HT m loads hi] at h ⊢;by_cases h2:(wk1 m loads i).ac.kind=2
 ·rw[AgZ h2,AgZ hi] at h;rw[AgZ h2,AgZ hi];cases hr:F2 sil m.slot (Fk m loads) i with
  |none=>rw[hr] at h;cases h
  |some j=>
   obtain⟨a1,a2,a3,a4⟩:=Kx hr;rw[hl] at a2;rw[HT m loads a2] at a3;refine⟨j,a2,a3,?_,h2⟩;show AcC (YX (T5 ((Fk m loads).getD j default).ac))=_;rw[HT m loads a2];rfl
 ·rw[AgY h2,hz] at h;cases h
theorem VD {l:List Nb} (h:checkNb l=0) {t e k s:Int} (h0:(hearM l t e k s).2=0):checkNb (hearM l t e k s).1=0/\(hearM l t e k s).1=P.Lh l t e k s:=by
 unfold hearM at h0 ⊢;rw[AgY (by omega)] at h0 ⊢
 split at h0
 ·cases h0
 ·rename_i hh;have hh:P.DO t e k s=true:=by simpa using hh
  rw[AgY (by rw[hh];simp)]
  split at h0
  ·cases h0
  ·rename_i hs;rw[AgY hs];exact⟨P.Tx h hh,rfl⟩
theorem R8 {l:List Nb} (h:checkNb l=0) {t:Int} {b:Bool} (h0:(countM l t b).2=0):checkNb (countM l t b).1=0/\P.BY l t=true/\(countM l t b).1=l.set (P.C8 l t) (P.cnt (l.getD (P.C8 l t) default) b):=by
 unfold countM at h0 ⊢;rw[AgY (by omega)] at h0 ⊢
 split at h0
 ·cases h0
 ·rename_i hf;rw[AgY hf];have hf:P.BY l t=true:=by simpa using hf
  exact⟨P.Wl h (P.CB.1 hf).1,hf,rfl⟩
theorem R9 (x:Nb) (b:Bool):(P.cnt x b).node=x.node/\(P.cnt x b).epoch=x.epoch/\(P.cnt x b).rank=x.rank/\(P.cnt x b).slot=x.slot:=by
 unfold P.cnt
 repeat' split
 all_goals exact⟨rfl,rfl,rfl,rfl⟩
theorem RN.Acz {n:Nat} {T:Tb} {i:Nat} {x:MN} (h:RN n T i x) {l:List Nb} (hc:checkNb l=0) (hn:∀y∈l,y.node<n):RN n T i {x with nb:=l}:=
 ⟨h.st,h.nd,h.len,h.sp,h.rk,h.rn,h.rp,hc,hn,h.nx⟩
theorem V7 {n:Nat} {T:Tb} {i:Nat} {w:Wk} {slot:Int} (h:RN n T i w.nd) (hs:0<=slot/\slot<=109951162):RN n T i (BL slot w).nd/\(BL slot w).rs=w.rs/\(BL slot w).ac=w.ac/\(BL slot w).nd.rk=w.nd.rk/\(BL slot w).nd.nb=w.nd.nb:=by
 unfold BL
 split
 ·exact⟨h,rfl,rfl,rfl,rfl⟩
 ·obtain⟨e,h1⟩:=JL (s:=w.nd.st) (slot:=slot) w.rs h.st hs;rw[e];rw[AgZ rfl];exact⟨h.Xh h1.1 h1.2.2,rfl,rfl,rfl,rfl⟩
theorem RG {n:Nat} {T:Tb} {i:Nat} {w:Wk} {slot:Int} (h:RN n T i w.nd) (hsrc:w.rs.heard=true->w.rs.source<n):RN n T i (Cu slot w).nd:=by
 unfold Cu
 split
 ·rename_i hc;obtain⟨h1,h2⟩:=VD h.nb hc.2.2;refine h.Acz h1 fun y hy=>?_
  rw[h2] at hy;rcases R.Oj hy with hy|hy
  ·exact h.nn y hy
  ·rw[hy.1];exact hsrc hc.1
 ·exact h
theorem XE {n:Nat} {T:Tb} {i:Nat} {w:Wk} (h:RN n T i w.nd):RN n T i (Eh w).nd:=by
 unfold Eh
 split
 ·rename_i hc;obtain⟨h1,h2,h3⟩:=R8 h.nb hc.2.2.2;refine h.Acz h1 fun y hy=>?_
  rw[h3] at hy;rcases List.mem_or_eq_of_mem_set hy with hy|hy
  ·exact h.nn y hy
  ·rw[hy,(R9 _ _).1];exact h.nn _ (R.CU (P.CB.1 h2).1)
 ·exact h
theorem Adn {n:Nat} {T:Tb} {i:Nat} {w:Wk} {slot:Int} {arr:List Ar} (h:RN n T i w.nd):RN n T i (F6 slot arr w).2.nd:=by
 unfold F6
 split
 ·exact h
 ·split
  ·exact VI _ h
  ·exact h
theorem OS {l:List Nb} (h:checkNb l=0) (slot:Int):checkNb (forgetM l slot 256)=0/\∀y∈forgetM l slot 256,y∈l:=by
 unfold forgetM
 split
 ·exact⟨R.Tq h _ _,fun y hy=>(AgR.1 hy).1⟩
 ·exact⟨h,fun y hy=>hy⟩
theorem Wi {n:Nat} {T:Tb} {i:Nat} {x:MN} {slot:Int} (h:RN n T i x) (hn:n<=32):RN n T i (DT slot x):=by
 obtain⟨f1,f2⟩:=OS h.nb slot;obtain⟨s1,s2,s3,s4,s5⟩:=R.Ho f1 h.rk (m:=64) (by omega);have hpar:(select' (forgetM x.nb slot 256) x.rk 64).1.parent<n:=by
  rcases s5 with s5|⟨b,hb,s5,_⟩|⟨s5,_⟩
  ·have:=h.rp;rw[s5];omega
  ·rw[<-s5];exact h.nn _ (f2 _ (R.CU hb))
  ·rw[s5];exact h.rp
 unfold DT;rw[AgY (by omega)];have hb:RN n T i {x with nb:=forgetM x.nb slot 256,rk:=(select' (forgetM x.nb slot 256) x.rk 64).1}:=
  ⟨h.st,h.nd,h.len,h.sp,s2,s3.trans h.rn,hpar,f1,fun y hy=>h.nn y (f2 y hy),h.nx⟩
 split
 ·exact hb
 ·rename_i hc;have hp:0<=(select' (forgetM x.nb slot 256) x.rk 64).1.parent:=by omega
  obtain⟨_,_,q3,_⟩:=P.J7 s2 (by omega);refine hb.Xh (Xr h.st (by omega) ?_) rfl;rw[h.nd,<-h.rn,<-s3];exact q3
theorem JR {m:Me} {loads:List Ld} {T:Tb} (hn:m.nodes.length<=32) (hs:0<=m.slot/\m.slot<=109951162) {i:Nat} (hi:i<m.nodes.length) (h:RN m.nodes.length T i (m.nodes.getD i default)):
  RN m.nodes.length T i (wk1 m loads i).nd/\((wk1 m loads i).ac.kind=1->(wk1 m loads i).ac.source=i/\Ib (T5 (wk1 m loads i).ac)=0/\((wk1 m loads i).ac.BF=3↔(wk1 m loads i).bc=true)):=by
 have hp:=Rz (loads:=loads) h hs;refine⟨AdP hp,fun k1=>?_⟩;obtain⟨a1,a2,a3,_⟩:=Ss (turns:=m.turns) hp (by omega) hs k1;exact⟨a1,a2,a3⟩
theorem Q3 {m:Me} {loads:List Ld} {sil:List Si} {T:Tb} (hn:m.nodes.length<=32) (hs:0<=m.slot/\m.slot<=109951162) (h:∀i,i<m.nodes.length->RN m.nodes.length T i (m.nodes.getD i default)) {i:Nat} (hi:i<m.nodes.length):
  RN m.nodes.length T i (wk3 m loads sil i).nd:=by
 have h1:=(JR (loads:=loads) hn hs hi (h i hi)).1;obtain⟨d1,d2,d3,_⟩:=V7 (w:=wk2 m loads sil i) (slot:=m.slot) h1 hs;refine XE (RG d1 fun hh=>?_);rw[d2] at hh ⊢;obtain⟨j,hj,k1,e,_⟩:=Jr hi hh;have:=((JR (loads:=loads) hn hs hj (h j hj)).2 k1).1;have e2:(wk2 m loads sil i).rs.source=(wk1 m loads j).ac.source:=congrArg Fr.source e;rw[e2,this];omega
theorem Aaw {m:Me} {loads:List Ld} {sil:List Si} {T:Tb} (hn:m.nodes.length<=32) (hs:0<=m.slot/\m.slot<=109951162) (h:∀i,i<m.nodes.length->RN m.nodes.length T i (m.nodes.getD i default)) {i:Nat} (hi:i<m.nodes.length):
  RN m.nodes.length T i (K9 m loads sil i):=Wi (Adn (Q3 hn hs h hi)) hn
theorem KQ {l:List Ar} {d:ByteArray} {slot:Int} (h:l.length<=4096):(Dm l d slot).length<=4096:=by
 unfold Dm
 split
 ·exact h
 ·split
  ·exact h
  ·rw[Agn];show l.length+1<=4096;omega
theorem Yo {m:Me} {loads:List Ld} {sil:List Si} (h:m.arr.length<=4096):(Yp m loads sil).length<=4096:=by
 unfold Yp;rw[(HS m loads sil).2]
 split
 ·unfold F6
  split
  ·exact h
  ·split
   ·exact h
   ·exact KQ h
 ·exact h
theorem SN {m:Me} (loads:List Ld) (sil:List Si) (hm:BX m=0) (hs:m.slot<16384):BX (Cz m loads sil)=0:=by
 obtain⟨hh,hr⟩:=C7.1 hm;have hn:=hh.n2;have h1:=hh.s1;have hnode:∀i,i<m.nodes.length->RN m.nodes.length (m.nodes.getD 0 default).st.tb i (K9 m loads sil i):=fun i hi=>Aaw hn (by omega) hr hi
 rw[GA,C7];have hl:((List.range m.nodes.length).map (K9 m loads sil)).length=m.nodes.length:=by simp
 refine⟨⟨by rw[hl];exact hh.n1,by rw[hl];exact hn,by show 0<=m.slot+1;omega,by show m.slot+1<=16384;omega,hh.t1,hh.t2,Yo hh.a1⟩,fun i hi=>?_⟩;dsimp only at hi ⊢;rw[hl] at hi;have hn1:=hh.n1;rw[hl,Ct _ hi,Ct _ (show 0<m.nodes.length by omega)];have h0:=hnode 0 (by omega);have h2:=hnode i hi;exact⟨h2.st,h2.nd,h2.len.trans h0.len.symm,h2.sp.trans h0.sp.symm,h2.rk,h2.rn,h2.rp,h2.nb,h2.nn,h2.nx⟩
theorem Ed {loads:List Ld} {sil:List Si} {m:Me} (hm:BX m=0):∀k:Nat,m.slot+k<=16384->BX (runN loads sil k m)=0/\(runN loads sil k m).slot=m.slot+k/\(runN loads sil k m).nodes.length=m.nodes.length/\(runN loads sil k m).turns=m.turns
 |0,_=>⟨hm,by show m.slot=m.slot+((0:Nat):Int);omega,rfl,rfl⟩
 |k+1,hk=>by
  obtain⟨h1,h2,h3,h4⟩:=Ed (loads:=loads) (sil:=sil) hm k (by omega);have e:runN loads sil (k+1) m=Cz (runN loads sil k m) loads sil:=rfl;rw[e];refine⟨SN loads sil h1 (by omega),?_,?_,?_⟩
  ·rw[GA];show _+1=_;rw[h2];omega
  ·rw[GA];simp[h3]
  ·rw[GA];exact h4
theorem runN_add (loads:List Ld) (sil:List Si) (m:Me) (a:Nat):∀b,runN loads sil (a+b) m=runN loads sil b (runN loads sil a m)
 |0=>rfl
 |b+1=>by
  show Cz (runN loads sil (a+b) m) loads sil=Cz (runN loads sil b (runN loads sil a m)) loads sil;rw[runN_add loads sil m a b]
end Go.Proofs.M
end
section
namespace Go.Proofs.M
open Go Go.Sx Go.Proofs Go.Proofs.T Go.Proofs.Q
open Go.Proofs.P (Nb nbs Rk rkA rkErr checkNb hearM countM forgetM select')
open Go.Proofs.R (startM advM)
def fK (m:Me) (loads:List Ld):Nat->List Ar->Wk->List Ar×Wk
 |0=>Aa5 m.slot
 |1=>OV m.slot loads
 |2=>YZ m.slot m.turns
 |4=>TL m.slot
 |5=>X5 m.slot
 |6=>F6 m.slot
 |_=>KG m.slot
def Kg (m:Me) (loads:List Ld) (sil:List Si) (k i:Nat) (A:List Ar×List Wk):List Ar×List Wk:=
 if k=3 then(A.1,Ci sil m.slot A.2 i) else((fK m loads k A.1 (A.2.getD i default)).1,A.2.set i (fK m loads k A.1 (A.2.getD i default)).2)
def IJ (m:Me) (loads:List Ld) (sil:List Si) (k:Nat) (A:List Ar×List Wk):Nat->List Ar×List Wk
 |0=>A
 |i+1=>Kg m loads sil k i (IJ m loads sil k A i)
def phK (m:Me) (loads:List Ld) (sil:List Si):Nat->List Ar×List Wk
 |0=>(m.arr,Dc m)
 |k+1=>IJ m loads sil k (phK m loads sil k) m.nodes.length
theorem LJ (F:List Ar->Wk->List Ar×Wk):∀(l:List Wk) (w:Wk) (arr:List Ar),Bu F arr (l++[w])=((F (Bu F arr l).1 w).1,(Bu F arr l).2++[(F (Bu F arr l).1 w).2])
 |[],_,_=>rfl
 |x :: l,w,arr=>by
  show Bu F arr (x :: (l++[w]))=_;unfold Bu;rw[LJ F l w]
  rfl
theorem On (F:List Ar->Wk->List Ar×Wk):∀(l:List Wk) (arr:List Ar),(Bu F arr l).2.length=l.length
 |[],_=>rfl
 |x :: l,arr=>by
  unfold Bu;simp[On F l]
section
variable {m:Me} {loads:List Ld} {sil:List Si} {A:List Ar×List Wk}
theorem Vp {k:Nat} (hk:k≠3):∀i,i<=A.2.length->IJ m loads sil k A i=((Bu (fK m loads k) A.1 (A.2.take i)).1,(Bu (fK m loads k) A.1 (A.2.take i)).2++A.2.drop i)
 |0,_=>rfl
 |i+1,hi=>by
  have ih:=Vp (k:=k) hk i (by omega);have hlt:i<A.2.length:=by omega
  have hl:(Bu (fK m loads k) A.1 (A.2.take i)).2.length=i:=by rw[On,Ags];omega
  show Kg m loads sil k i (IJ m loads sil k A i)=_;rw[ih];unfold Kg;rw[AgY hk];dsimp only;have e1:((Bu (fK m loads k) A.1 (A.2.take i)).2++A.2.drop i).getD i default=A.2.getD i default:=by
   rw[Agi,Agi,List.getElem?_append_right (by omega),hl,Nat.sub_self,List.getElem?_drop,Nat.add_zero]
  have e2:A.2.take (i+1)=A.2.take i++[A.2.getD i default]:=by
   rw[List.take_add_one,Agi,Agr hlt];rfl
  have e3:A.2.drop i=A.2.getD i default :: A.2.drop (i+1):=by
   rw[Agi,Agr hlt];exact List.drop_eq_getElem_cons hlt
  rw[e1,e2,LJ];refine congrArg (Prod.mk _) ?_
  conv=>lhs;rw[e3]
  rw[List.set_append_right _ _ (by omega),hl,Nat.sub_self,List.set_cons_zero,AgE];rfl
theorem Adi {k:Nat} (hk:k≠3):IJ m loads sil k A A.2.length=Bu (fK m loads k) A.1 A.2:=by
 rw[Vp hk _ (Ag0 _),List.take_length,List.drop_length,AgF]
theorem OB:∀i,IJ m loads sil 3 A i=(A.1,D2 sil m.slot A.2 i)
 |0=>rfl
 |i+1=>by
  show Kg m loads sil 3 i (IJ m loads sil 3 A i)=_;rw[OB i];rfl
theorem Qf (X:List Wk) (i:Nat) (slot:Int):(Ci sil slot X i).length=X.length:=by
 unfold Ci
 split
 ·rfl
 ·split
  ·unfold DM;split<;>simp
  ·rfl
theorem U1 {k i:Nat}:(Kg m loads sil k i A).2.length=A.2.length:=by
 unfold Kg
 split
 ·exact Qf _ _ _
 ·simp
theorem Vq {k:Nat}:∀i,(IJ m loads sil k A i).2.length=A.2.length
 |0=>rfl
 |i+1=>by
  show(Kg m loads sil k i (IJ m loads sil k A i)).2.length=_;rw[U1,Vq i]
theorem II:∀k,(phK m loads sil k).2.length=m.nodes.length
 |0=>by show(Dc m).length=_;simp[Dc]
 |k+1=>by
  show(IJ m loads sil k (phK m loads sil k) m.nodes.length).2.length=_;rw[Vq,II k]
theorem FL {k:Nat} (hk:k≠3):phK m loads sil (k+1)=Bu (fK m loads k) (phK m loads sil k).1 (phK m loads sil k).2:=by
 show IJ m loads sil k (phK m loads sil k) m.nodes.length=_;have:=Adi (m:=m) (loads:=loads) (sil:=sil) (A:=phK m loads sil k) hk
 rwa [II] at this
end
theorem AeJ (m:Me) (loads:List Ld) (sil:List Si):phK m loads sil 8=((EI m loads sil).1,(Bu (KG m.slot) [] (EI m loads sil).2).2):=by
 have map1:∀(f:Wk->Wk) (arr:List Ar) (l:List Wk),Bu (fun a w=>(a,f w)) arr l=(arr,l.map f):=fun f arr l=>Ej f l arr
 have h1:phK m loads sil 1=(m.arr,(Bu (Aa5 m.slot) [] (Dc m)).2):=by
  rw[FL (by decide)];show Bu (fun a w=>(a,{w with nd:=Jb m.slot w.nd})) m.arr (Dc m)=(m.arr,(Bu (fun a w=>(a,{w with nd:=Jb m.slot w.nd})) [] (Dc m)).2);rw[map1,map1]
 have h2:phK m loads sil 2=(m.arr,(Bu (OV m.slot loads) [] (Bu (Aa5 m.slot) [] (Dc m)).2).2):=by
  rw[FL (by decide),h1];generalize (Bu (Aa5 m.slot) [] (Dc m)).2=X;show Bu (fun a w=>(a,{w with nd:=CF m.slot w.node loads w.nd})) m.arr X=(m.arr,(Bu (fun a w=>(a,{w with nd:=CF m.slot w.node loads w.nd})) [] X).2);rw[map1,map1]
 have h3:phK m loads sil 3=(m.arr,Fk m loads):=by
  rw[FL (by decide),h2];unfold Fk;generalize (Bu (OV m.slot loads) [] (Bu (Aa5 m.slot) [] (Dc m)).2).2=X;show Bu (fun a w=>(a,{w with nd:=(DF m.slot m.turns w.nd).1,ac:=(DF m.slot m.turns w.nd).2.1,bc:=w.bc||(DF m.slot m.turns w.nd).2.2})) m.arr X=(m.arr,(Bu (fun a w=>(a,{w with nd:=(DF m.slot m.turns w.nd).1,ac:=(DF m.slot m.turns w.nd).2.1,bc:=w.bc||(DF m.slot m.turns w.nd).2.2})) [] X).2);rw[map1,map1]
 have h4:phK m loads sil 4=(m.arr,F0 m loads sil):=by
  show IJ m loads sil 3 (phK m loads sil 3) m.nodes.length=_;rw[h3,OB];rfl
 have h5:phK m loads sil 5=(m.arr,(Bu (TL m.slot) [] (F0 m loads sil)).2):=by
  rw[FL (by decide),h4];generalize F0 m loads sil=X;show Bu (fun a w=>(a,BL m.slot w)) m.arr X=(m.arr,(Bu (fun a w=>(a,BL m.slot w)) [] X).2);rw[map1,map1]
 have h6:phK m loads sil 6=(m.arr,(Bu (X5 m.slot) [] (Bu (TL m.slot) [] (F0 m loads sil)).2).2):=by
  rw[FL (by decide),h5];generalize (Bu (TL m.slot) [] (F0 m loads sil)).2=X;show Bu (fun a w=>(a,Eh (Cu m.slot w))) m.arr X=(m.arr,(Bu (fun a w=>(a,Eh (Cu m.slot w))) [] X).2);rw[map1,map1]
 have h7:phK m loads sil 7=EI m loads sil:=by
  rw[FL (by decide),h6];rfl
 rw[FL (by decide),h7];generalize EI m loads sil=Y;show Bu (fun a w=>(a,{w with nd:=DT m.slot w.nd})) Y.1 Y.2=(Y.1,(Bu (fun a w=>(a,{w with nd:=DT m.slot w.nd})) [] Y.2).2);rw[map1,map1]
theorem UA (m:Me) (loads:List Ld) (sil:List Si):Cz m loads sil=⟨(phK m loads sil 8).2.map (·.nd),m.slot+1,m.turns,(phK m loads sil 8).1⟩:=by
 rw[AeJ];rfl
end Go.Proofs.M
end
