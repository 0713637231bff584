/-
  Functions' results, and laws on them. No condition.
-/
import Derived.Test.YtdlcbilgemnomaaGreatSxT30
set_option linter.unusedSimpArgs false
set_option linter.unusedVariables false
set_option maxHeartbeats 16000000
open Go.Proofs.Tryz
namespace Go.Proofs.Q
open Go Go.Sx
set_option maxRecDepth 4000
attribute [local irreducible] VR VC thenQ blockQ retL
instance Tryz.Ajr:NN Tryz.prog 3 1:=Zb (AT.int Tryz.Adl rfl)
structure Pk where
 id:Int
 to:Int
 prio:Int
 born:Int
 AcC:Int
 data:ByteArray
 deriving DecidableEq,Inhabited
def Pk.enc (x:Pk):List D:=[.int .i64 x.id,.int .i64 x.to,.int .i64 x.prio,.int .i64 x.born,.int .i64 x.AcC,.str x.data]
def Pk.cs (x:Pk):List C:=[.d (.int .i64 x.id),.d (.int .i64 x.to),.d (.int .i64 x.prio),.d (.int .i64 x.born),.d (.int .i64 x.AcC),.d (.str x.data)]
abbrev pkA (x:Pk):AV:=.agg x.cs
abbrev pks (l:List Pk):D:=Hj Pk.enc 6 l
theorem Aia {x y:Pk} (h:[SV.str x.data,SV.int IntKind.i64 x.AcC,SV.int IntKind.i64 x.born,SV.int IntKind.i64 x.prio,SV.int IntKind.i64 x.to,SV.int IntKind.i64 x.id].reverse=[SV.str y.data,SV.int IntKind.i64 y.AcC,SV.int IntKind.i64 y.born,SV.int IntKind.i64 y.prio,SV.int IntKind.i64 y.to,SV.int IntKind.i64 y.id].reverse):x=y:=by
 have h:=List.reverse_inj.1 h;cases x;cases y;simp only[Ak6,SV.int.injEq,SV.bool.injEq,SV.str.injEq,true_and,and_true] at h;obtain⟨rfl,rfl,rfl,rfl,rfl,rfl⟩:=h
 rfl
instance:Jq Pk.enc:=⟨fun _=>rfl⟩
structure Dp where
 id:Int
 slot:Int
 dropped:Bool
 deriving DecidableEq,Inhabited
def Dp.enc (x:Dp):List D:=[.int .i64 x.id,.int .i64 x.slot,.bool x.dropped]
def Dp.cs (x:Dp):List C:=[.d (.int .i64 x.id),.d (.int .i64 x.slot),.d (.bool x.dropped)]
abbrev dpA (x:Dp):AV:=.agg x.cs
abbrev dps (l:List Dp):D:=Hj Dp.enc 3 l
instance:Jq Dp.enc:=⟨fun _=>rfl⟩
structure Qu where
 Be:Int
 Ab:List Pk
 deriving DecidableEq,Inhabited
def Qu.cs (q:Qu):List C:=[.d (.int .i64 q.Be),.d (pks q.Ab)]
abbrev quA (q:Qu):AV:=.agg q.cs
def inI (n lo hi:Int):Bool:=decide (lo<=n/\n<=hi)
theorem Ev (n lo hi:Int):Ak 211 [AI n,AI lo,AI hi] (AB (inI n lo hi)):=by
 refine Ao func211 ntmps211 results211 fun E hS=>?_
 repeat'(first|refine Ad ?_|(refine Av ?_ ?_<;>intro h hq)|fail)
 all_goals refine Aq Ae rfl ?_
 all_goals simp_all [inI]<;>omega
def Eo (p:Pk):Int:=
 if p.id<0\/inI p.to (-1) 31=false\/inI p.prio 0 3=false\/inI p.born 0 1099511627776=false\/inI p.AcC 1 4096=false then 2 else if 127<p.data.size then 8 else 0
theorem JU (p:Pk):Ak 212 [pkA p] (AI (Eo p)):=by
 refine Ao func212 ntmps212 results212 fun E hS=>?_
 repeat'(first|refine Ad ?_|refine Aa (Ev _ _ _) ?_|(refine Av ?_ ?_<;>intro h hq)|fail)
 all_goals refine Aw Ae rfl ?_
 all_goals unfold Eo
 all_goals first
  |(simp_all;done)
  |(simp_all;omega)
  |trace_state
theorem Mo (p:Pk):Ak 118 [pkA p] (AI (Eo p)):=by
 refine Ao func118 ntmps118 results118 fun E hS=>?_
 repeat'(first|refine Ad ?_|(refine Av ?_ ?_<;>intro h hq)|fail)
 all_goals refine Aw Ae rfl ?_
 all_goals unfold Eo inI
 all_goals first
  |(simp_all;done)
  |(simp_all;omega)
  |trace_state
def Ho (l:List Pk) (k:Nat):Int:=
 if Eo (l.getD k default)≠0 then Eo (l.getD k default)
 else if((l.take k).any fun x=>decide (x.id=(l.getD k default).id))=true then 6
 else if 0<k/\(l.getD k default).prio<(l.getD (k-1) default).prio then 5 else 0
def Br (q:Qu):Int:=if inI q.Be 1 64=false then 2 else if q.Be<q.Ab.length then 8 else DQ q.Ab.length (Ho q.Ab)
theorem Fw {q:Qu} {k:Nat} {e:Int} (h1:inI q.Be 1 64=true) (h0:(q.Ab.length:Int)<=q.Be) (h:k<=q.Ab.length/\∀i,i<k->Ho q.Ab i=0) (hk:k<q.Ab.length) (he:Ho q.Ab k=e) (hne:e≠0):e=Br q:=by
 subst he;rw[Br,Akb (by simp[h1]),Akb (by omega),HS h.2 hk hne]
theorem M8 {q:Qu} {k:Nat} (h1:inI q.Be 1 64=true) (h0:(q.Ab.length:Int)<=q.Be) (h:k<=q.Ab.length/\∀i,i<k->Ho q.Ab i=0) (hk:q.Ab.length<=k):0=Br q:=by
 rw[Br,Akb (by simp[h1]),Akb (by omega),De fun i hi=>h.2 i (by omega)]
set_option maxRecDepth 4000 in
theorem FQ (q:Qu):Ak 157 [quA q] (AI (Br q)):=by
 refine Ao func157 ntmps157 results157 fun E hS=>?_
 repeat'(first|refine Af ?_|refine Aa (Ev _ _ _) ?_|refine SH (gk rfl) rfl rfl rfl rfl ?_|(refine Av ?_ ?_<;>intro h hq)|fail)
 ·refine Aw Ae rfl ?_;rw[Br,Akc hq]
 ·refine Aw Ae rfl ?_;rw[Br,Akb (by simp_all),Akc (by omega)]
 ·have h1:inI q.Be 1 64=true:=by simp_all
  have h2:q.Be<=64:=by simp[inI] at h1;omega
  refine Ax (ι:=Nat) (fun k=>AN [(1,.c (.ptr 1 0)),(3,.c (.mp 17)),(19,AD (pks q.Ab)),(20,AI q.Ab.length),(21,AI k)] [(1,.box q.cs),(17,.map (mpO k1 cfB (Acz Pk.id (q.Ab.take k))))]) (fun k=>k<=q.Ab.length/\∀i,i<k->Ho q.Ab i=0) (fun k=>q.Ab.length-k) 0 ⟨Ake _,fun i hi=>absurd hi (Aj9 _)⟩ ?_ ?_
  ·exact Al
  ·intro k hk
   repeat'(first|refine AJ ?_|refine Aa (JU _) ?_|refine VT (gk rfl) rfl rfl rfl rfl rfl rfl ?_|refine sq 14 rfl ?_|refine BN ?_|(refine Av ?_ ?_<;>intro h hq)|fail)
   ·refine Aw Ae rfl ?_;refine(Fw (e:=Eo (q.Ab.getD k default)) h1 (by omega) hk (by omega) ?_ hq).symm;rw[Ho,Akc hq]
   ·rw[UP] at hq;refine Aw Ae rfl ?_;refine(Fw (e:=6) h1 (by omega) hk (by omega) ?_ (by decide)).symm;rw[Ho,Akb (by omega),Akc hq]
   ·clear h;rw[UP] at hq;have ha:=hq;clear hq
    repeat'(first|refine Ad ?_|refine BZ (gk rfl) rfl rfl rfl rfl rfl (by omega) rfl ?_|refine OH (gk rfl) rfl rfl rfl rfl rfl ?_|(refine Av ?_ ?_<;>intro h hq)|fail)
    ·refine Aw Ae rfl ?_;refine(Fw (e:=5) h1 (by omega) hk (by omega) ?_ (by decide)).symm;rw[Ho,Akb (by omega),Akb (by rw[ha];decide),Akc (by omega)]
    all_goals
     refine⟨k+1,⟨by omega,fun i hi=>?_⟩,by omega,?_⟩
     ·by_cases hik:i<k
      ·exact hk.2 i hik
      ·have:i=k:=by omega
       subst this;rw[Ho,Akb (by omega),Akb (by rw[ha];decide),Akb (by omega)]
     ·have e:Abl (Acz Pk.id (q.Ab.take k)) (q.Ab.getD k default).id true=Acz Pk.id (q.Ab.take (k+1)):=by
       rw[Bq (by omega)];exact Aa2 ha
      rw[<-e];exact Al
   ·refine Aw Ae rfl ?_;exact(M8 h1 (by omega) hk (by omega)).symm
theorem AgN {α:Type} [Inhabited α] {l:List α} {p:α->Bool} {k:Nat} (hk:k<l.length) (hp:p (l.getD k default)=true):decide (oI (Ft l p)<(k:Int))=(l.take k).any p:=by
 cases hf:Ft l p with
 |none=>
  have:=EB hf _ (BS hk);rw[hp] at this;cases this
 |some i=>
  obtain⟨hi,hpi,hlt⟩:=Bs hf;by_cases h:i<k
  ·have h1:decide (oI (some i)<(k:Int))=true:=by simp[oI];omega
   rw[h1]
   symm
   rw[AjM];refine⟨l.getD i default,?_,hpi⟩;rw[Ajt,AjC hi];exact List.mem_take_iff_getElem.2 ⟨i,by omega,rfl⟩
  ·have h1:decide (oI (some i)<(k:Int))=false:=by simp[oI];omega
   rw[h1]
   symm
   rw[AjN];intro x hx;obtain⟨j,hj,_,rfl⟩:=CU hx;rw[hlt j (by omega)];simp
theorem Ip (l:List Pk) (id:Int):Ak 80 [AD (pks l),AI id] (AI (oI (Ft l fun x=>decide (x.id=id)))):=by
 refine Ao func80 ntmps80 results80 fun E hS=>?_
 refine Bz (t:=0) rfl fun hb=>?_
 repeat'(first|refine Af ?_|fail)
 refine Ax (ι:=Nat) (fun k=>AN [(0,AD (pks l)),(1,AI id),(5,AI k)] []) (fun k=>k<=l.length/\∀i,i<k->decide ((l.getD i default).id=id)=false) (fun k=>l.length-k) 0 ⟨Ake _,fun i hi=>absurd hi (Aj9 _)⟩ ?_ ?_
 ·exact Al
 ·intro k hk
  repeat'(first|refine Af ?_|(refine Av ?_ ?_<;>intro h hq)|fail)
  ·refine Aw Ae rfl ?_;rw[C2 hk.2 (by omega) (by simpa using hq)];rfl
  ·refine⟨k+1,⟨by omega,fun i hi=>?_⟩,by omega,?_⟩
   ·by_cases hik:i<k
    ·exact hk.2 i hik
    ·have:i=k:=by omega
     subst this;simpa using hq
   ·exact Al
  ·refine Aw Ae rfl ?_;have:k=l.length:=by omega
   subst this;rw[CF hk.2];rfl
theorem Fp (q:Qu):Ak 75 [quA q] (AI (Br q)):=by
 refine Ao func75 ntmps75 results75 fun E hS=>?_
 repeat'(first|refine Af ?_|(refine Av ?_ ?_<;>intro h hq)|fail)
 all_goals first
  |(refine Aw Ae rfl ?_
    first
    |(rw[Br,Akc (by simp[inI];omega)];done)
    |(rw[Br,Akb (by simp[inI];omega),Akc (by omega)];done))
  |skip
 ·have h1:inI q.Be 1 64=true:=by simp[inI];omega
  refine Ax (ι:=Nat) (fun k=>AN [(1,.c (.ptr 1 0)),(3,AI k)] [(1,.box q.cs)]) (fun k=>k<=q.Ab.length/\∀i,i<k->Ho q.Ab i=0) (fun k=>q.Ab.length-k) 0 ⟨Ake _,fun i hi=>absurd hi (Aj9 _)⟩ ?_ ?_
  ·exact Al
  ·intro k hk;have hx:=AgN (l:=q.Ab) (k:=k) (p:=fun x=>decide (x.id=(q.Ab.getD k default).id))
   repeat'(first|refine AJ ?_|refine Aa (Mo _) ?_|refine Aa (Ip _ _) ?_|refine sq 14 rfl ?_|refine BN ?_|(refine Av ?_ ?_<;>intro h hq)|fail)
   ·refine Aw Ae rfl ?_;refine(Fw (e:=Eo (q.Ab.getD k default)) h1 (by omega) hk (by omega) ?_ hq).symm;rw[Ho,Akc hq]
   ·refine Aw Ae rfl ?_;refine(Fw (e:=6) h1 (by omega) hk (by omega) ?_ (by decide)).symm;rw[Ho,Akb (by omega),Akc (by rw[<-hx (by omega) (by simp)];exact h)]
   ·have ha:=(hx (by omega) (by simp)).symm.trans h;clear h hq hx
    repeat'(first|refine Ad ?_|refine BZ (gk rfl) rfl rfl rfl rfl rfl (by omega) rfl ?_|(refine Av ?_ ?_<;>intro h hq)|fail)
    ·refine Aw Ae rfl ?_;refine(Fw (e:=5) h1 (by omega) hk (by omega) ?_ (by decide)).symm;rw[Ho,Akb (by omega),Akb (by rw[ha];decide),Akc (by omega)]
    all_goals
     refine⟨k+1,⟨by omega,fun i hi=>?_⟩,by omega,?_⟩
     ·by_cases hik:i<k
      ·exact hk.2 i hik
      ·have:i=k:=by omega
       subst this;rw[Ho,Akb (by omega),Akb (by rw[ha];decide),Akb (by omega)]
     ·exact Al
   ·refine Aw Ae rfl ?_;exact(M8 h1 (by omega) hk (by omega)).symm
abbrev Cg (p:Pk->Bool):List DV->DV->Prop:=fun ds r=>∃x:Pk,ds=[.agg x.enc]/\r=.d (.bool (p x))
theorem Jh (l:List Pk) (p:Pk->Bool):Ak 210 [AD (pks l),.clo (Cg p)] (AI (oI (Ft l p))):=by
 refine Ao func210 ntmps210 results210 fun E hS=>?_
 refine Bz (t:=0) rfl fun hb=>?_
 repeat'(first|refine Af ?_|fail)
 refine Ax (ι:=Nat) (fun k=>AN [(0,AD (pks l)),(1,.clo (Cg p)),(7,AI l.length),(8,AI k)] []) (fun k=>k<=l.length/\∀i,i<k->p (l.getD i default)=false) (fun k=>l.length-k) 0 ⟨Ake _,fun i hi=>absurd hi (Aj9 _)⟩ ?_ ?_
 ·exact By ⟨rfl,rfl,rfl,rfl,tt0⟩ trivial rfl
 ·intro k hk
  repeat'(first|refine Af ?_|refine F4 (⟨_,rfl,rfl⟩) (gk rfl) rfl rfl rfl rfl ?_|(refine Av ?_ ?_<;>intro h hq)|fail)
  ·refine Aw Ae rfl ?_;rw[C2 hk.2 (by omega) h];rfl
  ·refine⟨k+1,⟨by omega,fun i hi=>?_⟩,by omega,By ⟨rfl,rfl,rfl,rfl,tt0⟩ trivial rfl⟩;by_cases hik:i<k
   ·exact hk.2 i hik
   ·have:i=k:=by omega
    subst this;exact h
  ·refine Aw Ae rfl ?_;have:k=l.length:=by omega
   subst this;rw[CF hk.2];rfl
theorem KQ (l:List Pk) (p:Pk->Bool):Ak 155 [AD (pks l),.clo (Cg p)] (AB (l.any p)):=by
 refine Ao func155 ntmps155 results155 fun E hS=>?_
 repeat'(first|refine Ad ?_|refine AK [] (Jh l p) ?_|fail)
 all_goals exact Aq Ae rfl (EL _ _).symm
theorem Iw (l:List Pk) (hl:l.length<=100000):FnS Tryz.prog 136 [AD (pks l)] [] (.c (.row 7 l.length)) [(7,.row 120 6 (rowOf Pk.enc l))]:=by
 refine Ao func136 ntmps136 results136 fun E hS=>?_
 refine AG ?_
 repeat'(first|refine AJ ?_|refine sq 1 rfl ?_|fail)
 refine Dw ?_;refine Dw ?_;refine GM rfl rfl rfl rfl fun b hb=>?_
 repeat'(first|refine Ad ?_|refine Ap ?_|(refine Av ?_ ?_<;>intro h hq)|fail)
 ·have h0:l=[]:=Akm (hb (by assumption));subst h0;exact Ag (le_nil (T:=120) (sz:=6) (nm:=7) (t:=2) rfl rfl) (BI Ae rfl rfl)
 ·refine Ag (A0 (l:=[(2,.c (.row 7 l.length))]) (b:=[(7,.row 120 6 (rowOf Pk.enc l))]) (fun n=>n) ⟨⟨_,rfl,.c (.row rfl (by simp))⟩,tt0⟩ ⟨⟨_,rfl,.CJ ?_ Ai⟩,tt0⟩ rfl (by simp only[wfL,wfs];rfl)) (BI Ae rfl rfl);exact(Akp _).trans (Dr (enc:=Pk.enc) (sz:=6) fun _=>rfl)
theorem AcO (l:List Pk) (p:Pk->Bool) (hl:l.length<=100000):FnS Tryz.prog 221 [.c (.row 0 l.length),.clo (Cg p)] [(0,.row 120 6 (rowOf Pk.enc l))]
  (.c (.row 0 (l.filter fun x=>!p x).length)) [(0,.row 120 6 (rowOf Pk.enc (l.filter fun x=>!p x)))]:=by
 refine FnS.Bv (enters_of func221 (by kernel_rfl) rfl) func221 rfl ntmps221 results221 rfl (by first|rfl|(simp only[BC,wfL,Bj,wfs];rfl)) rfl fun E=>?_
 refine AG ?_;have hidx:=Jh l p;cases hf:Ft l p with
 |none=>
  rw[hf] at hidx;have hidx':Ak 210 [AD (pks l),.clo (Cg p)] (AI (-1)):=hidx
  repeat'(first|refine Ad ?_|refine AK [0] (hidx') ?_|fail)
  have e:l.filter (fun x=>!p x)=l:=Go.Sx.filter_none (EB hf);rw[e];exact L9 (BI Ae rfl rfl)
 |some i=>
  rw[hf] at hidx;obtain⟨hi,hpi,hlt⟩:=Bs hf;have hidx':Ak 210 [AD (pks l),.clo (Cg p)] (AI (i:Nat)):=hidx
  repeat'(first|refine Af ?_|refine AK [0] (hidx') ?_|fail)
  refine Ax (ι:=Nat×Nat×List Pk) (fun q=>AN [(0,.c (.row 0 l.length)),(1,.clo (Cg p)),(5,AI q.2.1),(6,AI q.1)] [(0,.row 120 6 (rowOf Pk.enc q.2.2))])
   (fun q=>q.1<=l.length/\q.2.1<q.1/\q.2.2.length=l.length/\q.2.2.take q.2.1=(l.take q.1).filter (fun x=>!p x)/\q.2.2.drop q.1=l.drop q.1) (fun q=>l.length-q.1) (i+1,i,l) ⟨hi,Nat.lt_succ_self _,rfl,Go.Sx.JY hi hpi hlt,rfl⟩ ?_ ?_
  ·exact By ⟨rfl,rfl,rfl,rfl,tt0⟩ ⟨rfl,tt0⟩ (by simp only[wfL,wfs];rfl)
  ·rintro⟨k,j,L⟩ ⟨h1,h2,h3,h4,h5⟩;dsimp only at h1 h2 h3 h4 h5 ⊢
   repeat'(first|refine AJ ?_|refine F4 (⟨_,rfl,rfl⟩) (gk rfl) rfl rfl rfl rfl ?_|refine AS ?_|refine AQ ?_|refine Cn (gk rfl) rfl rfl (by omega) rfl rfl rfl ?_|refine AY ?_|refine sq 11 rfl ?_|refine BN ?_|(refine Av ?_ ?_<;>intro h hq)|fail)
   ·have hk:k<l.length:=by omega
    obtain⟨hx,hd⟩:=Go.Sx.FO h3 h5 hk;refine⟨(k+1,j+1,L.set j (L.getD k default)),⟨by dsimp only;omega,by dsimp only;omega,by simp[h3],?_,?_⟩,by dsimp only;omega,A0 (fun n=>n) ⟨⟨_,rfl,.c (.row rfl rfl)⟩,⟨_,rfl,.clo⟩,⟨_,rfl,.c .d⟩,⟨_,rfl,.c .d⟩,tt0⟩
     ⟨⟨_,rfl,.CJ (CC rfl) Ai⟩,tt0⟩ rfl (by simp only[wfL,wfs];rfl)⟩
    ·dsimp only;rw[Go.Sx.take_set (by omega),h4,Go.Sx.Bq hk,Akw,hx,AkL (by rw[<-hx];exact h)];rfl
    ·dsimp only;rw[List.drop_set_of_lt (by omega),hd]
   ·have hk:k<l.length:=by omega
    obtain⟨hx,hd⟩:=Go.Sx.FO h3 h5 hk;refine⟨(k+1,j,L),⟨by dsimp only;omega,by dsimp only;omega,h3,?_,hd⟩,by dsimp only;omega,A0 (fun n=>n) ⟨⟨_,rfl,.c (.row rfl rfl)⟩,⟨_,rfl,.clo⟩,⟨_,rfl,.c .d⟩,⟨_,rfl,.c .d⟩,tt0⟩
     ⟨⟨_,rfl,.CJ rfl Ai⟩,tt0⟩ rfl (by simp only[wfL,wfs];rfl)⟩
    dsimp only;rw[h4,Go.Sx.Bq hk,Akw,AkA (by rw[<-hx,h];simp)];simp
   ·have hk:k=l.length:=by omega
    subst hk;refine E4 (nm:=0) rfl (F6 (by omega)) fun cp spare hcp hmax=>?_
    rw[An] at hcp
    repeat'(first|refine Ad ?_|refine BT ?_|refine Bb ?_|refine La (gk rfl) rfl (by exact .sub) rfl rfl rfl rfl rfl (by(simp only[lns];omega)) ?_|fail)
    rw[AkB] at h4;have hj:(l.filter fun x=>!p x).length=j:=by rw[<-h4,AjD];omega
    rw[hj,<-h4];refine Ag (A0 (l:=[(4,.c (.row 0 j))]) (b:=[(0,.row 120 6 (rowOf Pk.enc (L.take j)))]) (fun n=>n) ⟨⟨_,rfl,.c (.row rfl rfl)⟩,tt0⟩ ⟨⟨_,rfl,.KW j ?_⟩,tt0⟩ rfl (by simp only[wfL,wfs];rfl)) (BI Ae rfl rfl);rw[AjP,AkC (by rw[AjD,An];omega),List.take_take,Nat.min_self,Dj]
instance AiW:Overlaps Tryz.prog 301:=
 ⟨34,4,120,6,AT.slice Tryz.Acx rfl,fun w=>AT.Bx Tryz.XZ w,fun args w=>run_callFunc_extern func301 (by kernel_rfl) (by kernel_rfl) (by kernel_rfl) (by kernel_rfl) args w⟩
abbrev Pk1 (x:Pk):D:=.rd 1 6 fun _ j=>(Pk.enc x).getD j .Df
theorem Oj (l:List Pk) (i:Nat) (x:Pk):rowOf Pk.enc (BA l i x)=List.take i (rowOf Pk.enc l)++(Pk.enc x).map C.d :: List.drop i (rowOf Pk.enc l):=by
 rw[BA,AF,Dj,Fv]
 rfl
theorem JP (l:List Pk) (i:Nat) (x:Pk) (hl:l.length<=100000) (hi:i<=l.length):FnS Tryz.prog 273 [.c (.row 0 l.length),AI i,AD (Pk1 x)] [(0,.row 120 6 (rowOf Pk.enc l))]
  (.c (.row 1 (l.length+1))) [(1,.row 120 6 (rowOf Pk.enc (BA l i x)))]:=by
 refine FnS.Bv (enters_of func273 (by kernel_rfl) rfl) func273 rfl ntmps273 results273 rfl (by first|rfl|(simp only[BC,wfL,Bj,wfs];rfl)) rfl fun E=>?_
 refine AG ?_
 repeat'(first|refine AJ ?_|refine AQ ?_|refine Ap ?_|refine Bb ?_|refine sq 8 rfl ?_|(refine Av ?_ ?_<;>intro h hq)|fail)
 ·have e:i=l.length:=by omega
  subst e;refine Ag (A0 (l:=[(6,.c (.row 1 (l.length+1)))]) (b:=[(1,.row 120 6 (rowOf Pk.enc (BA l l.length x)))]) (fun n=>if n=1 then 25 else n) ⟨⟨_,rfl,.c (.row rfl rfl)⟩,tt0⟩
   ⟨⟨_,rfl,.CJ ?_ Ai⟩,tt0⟩ rfl (by simp only[wfL,wfs];rfl)) (BI Ae rfl rfl)
  rw[BA,AkB,List.drop_length,AF]
  rfl
 ·refine E4 (nm:=0) rfl (F6 (by omega)) fun cp spare hcp hmax=>?_
  rw[An] at hcp
  repeat'(first|refine AJ ?_|refine GJ (gk rfl) rfl rfl rfl (by exact .full) (by omega) rfl rfl rfl ?_|refine DO (gk rfl) rfl rfl rfl rfl rfl rfl rfl rfl rfl rfl (by omega) (by(simp only[lns];omega)) (by omega) (by(try dsimp only);omega) rfl rfl ?_|refine BT ?_|refine Bb ?_|refine Hy (gk rfl) rfl rfl (by exact .sub) rfl (by first|exact .src .rd|exact .tail rfl (by(simp only[lns];omega)) (by omega)) rfl rfl rfl (by(simp only[lns];omega)) (by omega) rfl ?_|refine GK (gk rfl) rfl rfl rfl rfl ?_|refine sq 10 rfl ?_|(refine Av ?_ ?_<;>intro h hq)|fail)
  ·have hq1:((l.length:Int)+(1:Nat)-i).toNat=l.length+1-i:=by omega
   refine E4 (nm:=40) rfl (by
    intro e;have:=congrArg List.length e;rw[Ajy,AjH] at this;change _+_=0 at this;omega) fun cp2 spare2 hcp2 hmax2=>?_
   rw[Ajy,AjH,AjD,An] at hcp2
   repeat'(first|refine Ad ?_|refine Bb ?_|refine Hy (gk rfl) rfl rfl (by exact .sub) rfl (by first|exact .src .rd|exact .src (.sub rfl (by exact .full) (by(simp only[lns];omega)))) rfl rfl rfl (by(simp only[lns];omega)) (by omega) rfl ?_|fail)
   refine Ag (A0 (l:=[(6,.c (.row 1 (l.length+1)))]) (b:=[(1,.row 120 6 (rowOf Pk.enc (BA l i x)))]) (fun n=>if n=1 then 40 else n) ⟨⟨_,rfl,.c (.row rfl (by omega))⟩,tt0⟩
    ⟨⟨_,rfl,.KW (l.length+1) ?_⟩,tt0⟩ rfl (by simp only[wfL,wfs];rfl)) (BI Ae rfl rfl)
   rw[hq1,show min 1 (i+(l.length+1-i)-i)=1 by omega,show min (l.length-i) (i+(l.length+1-i)-(i+1))=l.length-i by omega];exact(Lv (y:=(Pk.enc x).map C.d) (An (enc:=Pk.enc)) (by omega) rfl).trans (Oj l i x).symm
  ·refine Ag (A0 (l:=[(6,.c (.row 1 (l.length+1)))]) (b:=[(1,.row 120 6 (rowOf Pk.enc (BA l i x)))]) (fun n=>if n=1 then 0 else n) ⟨⟨_,rfl,.c (.row rfl rfl)⟩,tt0⟩
    ⟨⟨_,rfl,.KW (l.length+1) ?_⟩,tt0⟩ rfl (by simp only[wfL,wfs];rfl)) (BI Ae rfl rfl)
   rw[show min 1 (l.length+1-i)=1 by omega,show min (l.length+1-i) (l.length+1-(i+1))=l.length-i by omega];exact(Lu (y:=(Pk.enc x).map C.d) (An (enc:=Pk.enc)) (by omega)).trans (Oj l i x).symm
theorem Z2 (l:List Pk) (i:Nat) (hi:i<l.length) (hl:l.length<=100000):FnS Tryz.prog 309 [.c (.row 0 l.length),AI i,AI (i+1:Int)] [(0,.row 120 6 (rowOf Pk.enc l))]
  (.c (.row 0 (l.length-1))) [(0,.row 120 6 (rowOf Pk.enc (l.eraseIdx i)))]:=by
 refine FnS.Bv (enters_of func309 (by kernel_rfl) rfl) func309 rfl ntmps309 results309 rfl (by first|rfl|(simp only[BC,wfL,Bj,wfs];rfl)) rfl fun E=>?_
 refine AG ?_;refine E4 (nm:=0) rfl (F6 (by omega)) fun cp spare hcp hmax=>?_
 rw[An] at hcp
 repeat'(first|refine Ad ?_|refine SL (gk rfl) rfl rfl rfl rfl ?_|refine Nt (gk rfl) rfl rfl rfl (by exact .sub rfl (by exact .full) (by(simp only[lns];omega))) rfl rfl (by(simp only[lns];omega)) (by omega) rfl ?_|refine P5 (gk rfl) rfl rfl rfl rfl (by exact .int rfl rfl) (by exact .int rfl rfl) (by exact .int rfl rfl) (by omega) (by(simp only[lns];omega)) (by omega) rfl ?_|refine BT ?_|refine Bb ?_|refine La (gk rfl) rfl (by exact .sub) rfl rfl rfl rfl rfl (by(simp only[lns];omega)) ?_|(refine Av ?_ ?_<;>intro h hq)|fail)
 ·exfalso;omega
 ·have e1:i+(l.length-(i+1))=l.length-1:=by omega
  have e2:(l.eraseIdx i).length=l.length-1:=List.length_eraseIdx_of_lt hi;refine Ag (A0 (l:=[(6,.c (.row 0 (l.length-1)))]) (b:=[(0,.row 120 6 (rowOf Pk.enc (l.eraseIdx i)))]) (fun n=>n) ⟨⟨_,rfl,.c (.row rfl e1)⟩,tt0⟩ ⟨⟨_,rfl,.KW (l.length-1) ?_⟩,tt0⟩ rfl (by simp only[wfL,wfs];rfl)) (BI Ae rfl rfl);rw[e1];exact AeX (An (enc:=Pk.enc)) hi
abbrev Ahs (p:Dp->Bool):List DV->DV->Prop:=fun ds r=>∃x:Dp,ds=[.agg x.enc]/\r=.d (.bool (p x))
theorem Qx (a b:List Pk):Ak 120 [AD (pks a),AD (pks b)] (AB (decide (a=b))):=by
 refine Ao func120 ntmps120 results120 fun E hS=>?_
 refine Bz (t:=0) rfl fun hb=>?_
 repeat'(first|refine Af ?_|(refine Av ?_ ?_<;>intro h hq)|fail)
 ·refine Aq Ae rfl ?_;have:a≠b:=fun e=>by subst e;simp_all
  simp[this]
 ·refine Ax (ι:=Nat) (fun k=>AN [(0,AD (pks a)),(1,AD (pks b)),(5,AI k)] []) (fun k=>k<=a.length/\∀i,i<k->a.getD i default=b.getD i default) (fun k=>a.length-k) 0 ⟨Ake _,fun i hi=>absurd hi (Aj9 _)⟩ ?_ ?_
  ·exact By ⟨rfl,rfl,rfl,tt0⟩ trivial rfl
  ·rintro k ⟨hk,hall⟩
   repeat'(first|refine Af ?_|refine Gc (gk rfl) rfl rfl rfl rfl rfl rfl rfl ?_|(refine Av ?_ ?_<;>intro h hq)|fail)
   ·refine Aq Ae rfl ?_;have:a≠b:=fun e=>hq (by rw[e])
    simp[this]
   ·refine⟨k+1,⟨by omega,fun i hi=>?_⟩,by omega,By ⟨rfl,rfl,rfl,tt0⟩ trivial rfl⟩;by_cases hik:i<k
    ·exact hall i hik
    ·have:i=k:=by omega
     subst this;exact Aia hq
   ·refine Aq Ae rfl ?_;have:a=b:=Go.Sx.EX (by omega) fun i hi=>hall i (by omega)
    simp[this]
theorem Zl (x:Pk) (t:Int):Ak 300 [pkA x,.ep (fun _=>.int .i64 t) 1] (AB (decide (x.id=t))):=by
 refine Ao func300 ntmps300 results300 fun E hS=>?_
 repeat'(first|refine Ad ?_|fail)
 all_goals exact AO
theorem AbF {σ:St} {t:Int} {n1:Nat} {L:List Nat} (hL:n1∈L) (h1:σ (.b n1)=some (.k (.box [.d (.int .i64 t)]))):AR Tryz.prog σ L (.fnc 300 [.ptr n1 0]) (.clo (Cg fun x=>decide (x.id=t))):=
 .fnc (eps:=[.ep (fun _=>.int .i64 t) 1]) (.cons (.ptr hL h1 (fun j hj=>by
  have:j=0:=by omega
  subst this;rfl)) .nil) (enters_of func300 (by kernel_rfl) rfl)
  (by rintro _ _ ⟨x,rfl,rfl⟩;exact⟨rfl,Zl x t⟩)
theorem T6 (x:Pk) (t:Int):Ak 315 [pkA x,.ep (fun _=>.int .i64 t) 1] (AB (decide (x.to=t))):=by
 refine Ao func315 ntmps315 results315 fun E hS=>?_
 repeat'(first|refine Ad ?_|fail)
 all_goals exact AO
theorem Xb {σ:St} {t:Int} {n1:Nat} {L:List Nat} (hL:n1∈L) (h1:σ (.b n1)=some (.k (.box [.d (.int .i64 t)]))):AR Tryz.prog σ L (.fnc 315 [.ptr n1 0]) (.clo (Cg fun x=>decide (x.to=t))):=
 .fnc (eps:=[.ep (fun _=>.int .i64 t) 1]) (.cons (.ptr hL h1 (fun j hj=>by
  have:j=0:=by omega
  subst this;rfl)) .nil) (enters_of func315 (by kernel_rfl) rfl)
  (by rintro _ _ ⟨x,rfl,rfl⟩;exact⟨rfl,T6 x t⟩)
theorem Yx (x p:Pk):Ak 272 [pkA x,.ep (fun j=>p.enc.getD j .Df) 6] (AB (decide (p.prio<x.prio))):=by
 refine Ao func272 ntmps272 results272 fun E hS=>?_
 repeat'(first|refine Ad ?_|fail)
 all_goals exact AO
theorem Lj {σ:St} {p:Pk} {n1:Nat} {L:List Nat} (hL:n1∈L) (h1:σ (.b n1)=some (.k (.box p.cs))):AR Tryz.prog σ L (.fnc 272 [.ptr n1 0]) (.clo (Cg fun x=>decide (p.prio<x.prio))):=
 .fnc (eps:=[.ep (fun j=>p.enc.getD j .Df) 6]) (.cons (.ptr hL h1 (fun j hj=>by
  have:j=0\/j=1\/j=2\/j=3\/j=4\/j=5:=by omega
  rcases this with rfl|rfl|rfl|rfl|rfl|rfl<;>rfl)) .nil) (enters_of func272 (by kernel_rfl) rfl)
  (by rintro _ _ ⟨x,rfl,rfl⟩;exact⟨rfl,Yx x p⟩)
def JR (l:List Pk) (id:Int):Option Nat:=Ft l fun x=>decide (x.id=id)
def TP (l:List Pk) (to:Int):Option Nat:=Ft l fun x=>decide (x.to=to)
theorem Md (q:Qu) (id:Int):Ak 271 [quA q,AI id] (AI (oI (JR q.Ab id))):=by
 refine Ao func271 ntmps271 results271 fun E hS=>?_
 repeat'(first|refine Ad ?_|refine Cd [3] (Jh q.Ab (fun x=>decide (x.id=id))) (gk rfl) rfl (by(repeat'(first|exact .nil|refine .cons ?_ ?_|exact .of0 (.c .d)|exact(AbF (by simp) rfl)))<;>fail) (by rfl) rfl (by rfl) rfl (by rfl) rfl ?_|fail)
 all_goals exact AZ
theorem Xa (l:List Pk) (to:Int):Ak 307 [AD (pks l),AI to] (AI (oI (TP l to))):=by
 refine Ao func307 ntmps307 results307 fun E hS=>?_
 repeat'(first|refine Ad ?_|refine Cd [3] (Jh l (fun x=>decide (x.to=to))) (gk rfl) rfl (by(repeat'(first|exact .nil|refine .cons ?_ ?_|exact .of0 (.c .d)|exact(Xb (by simp) rfl)))<;>fail) (by rfl) rfl (by rfl) rfl (by rfl) rfl ?_|fail)
 all_goals exact AZ
def ES (p:Pk) (slot:Int):Bool:=decide (0<=slot)&&decide (p.AcC<=IntKind.i64.wrap (slot-p.born))
theorem NQ (p:Pk) (slot:Int):Ak 219 [pkA p,AI slot] (AB (ES p slot)):=by
 refine Ao func219 ntmps219 results219 fun E hS=>?_
 repeat'(first|refine Ad ?_|refine F2 rfl rfl rfl rfl rfl ?_|(refine Av ?_ ?_<;>intro h hq)|fail)
 all_goals(refine Aq Ae rfl ?_;unfold ES;first|(simp_all;done)|(simp_all;intro h;omega))
def atP (l:List Pk) (pr:Int):Nat:=(Ft l fun x=>decide (pr<x.prio)).getD l.length
def noQ:Qu:=⟨0,[]⟩
def DP (q:Qu) (p:Pk):Qu×List Pk×Int:=
 if Br q≠0 then(noQ,[],1) else if Eo p≠0 then(noQ,[],Eo p) else if(q.Ab.any fun x=>decide (x.id=p.id))=true then(noQ,[],6)
 else if q.Ab.length=q.Be then
  if(q.Ab.getD (q.Ab.length-1) default).prio<=p.prio then(noQ,[],13)
  else(⟨q.Be,BA (q.Ab.take (q.Ab.length-1)) (atP (q.Ab.take (q.Ab.length-1)) p.prio) p⟩,[q.Ab.getD (q.Ab.length-1) default],0)
 else(⟨q.Be,BA q.Ab (atP q.Ab p.prio) p⟩,[],0)
theorem B9 {q:Qu} (h:Br q=0):1<=q.Be/\q.Be<=64/\(q.Ab.length:Int)<=q.Be:=by
 unfold Br at h
 split at h
 ·cases h
 ·split at h
  ·cases h
  ·rename_i h1 h2;simp[inI] at h1;omega
end Go.Proofs.Q
