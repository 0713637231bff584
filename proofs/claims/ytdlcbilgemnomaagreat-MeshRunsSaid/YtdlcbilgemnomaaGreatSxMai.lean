/-
  Functions' results, and laws on them. No condition.
-/
import Derived.Test.YtdlcbilgemnomaaGreatSxMag
set_option linter.unusedSimpArgs false
set_option linter.unusedVariables false
open Go.Proofs.Tryz
namespace Go.Proofs.P
open Go Go.Sx
set_option maxRecDepth 4000
attribute [local irreducible] VR VC thenQ blockQ retL
abbrev Aek (slot age:Int) (x:Nb):Bool:=decide (age<=IntKind.i64.wrap (slot-x.slot))
abbrev kept (l:List Nb) (slot age:Int):List Nb:=l.filter fun x=>!Aek slot age x
theorem RC (x:Nb) (slot age:Int):Ak 184 [nbA x,.ep (fun _=>.int .i64 slot) 1,.ep (fun _=>.int .i64 age) 1] (AB (Aek slot age x)):=by
 refine Ao func184 ntmps184 results184 fun E hS=>?_
 repeat'(first|refine Ad ?_|refine F2 rfl rfl rfl rfl rfl ?_|fail)
 all_goals exact AO
theorem T5 {σ:St} {slot age:Int} {n1 n2:Nat} (h1:σ (.b n1)=some (.k (.box [.d (.int .i64 slot)]))) (h2:σ (.b n2)=some (.k (.box [.d (.int .i64 age)]))):AR Tryz.prog σ [n1,n2] (.fnc 184 [.ptr n1 0,.ptr n2 0]) (.clo (Mh (Aek slot age))):=
 .fnc (eps:=[.ep (fun _=>.int .i64 slot) 1,.ep (fun _=>.int .i64 age) 1]) (.cons (.ptr (by simp) h1 (fun j hj=>by
  have:j=0:=by omega
  subst this;rfl)) (.cons (.ptr (by simp) h2 (fun j hj=>by
  have:j=0:=by omega
  subst this;rfl)) .nil)) (enters_of func184 (by kernel_rfl) rfl)
  (by rintro _ _ ⟨x,rfl,rfl⟩;exact⟨rfl,RC x slot age⟩)
theorem W8 (l:List Nb) (slot age:Int) (h:checkNb l≠0\/slot<0\/age<0):Ak 134 [AD (nbs l),AI slot,AI age] (AD (nbs l)):=by
 refine Ao func134 ntmps134 results134 fun E hS=>?_
 repeat'(first|refine AJ ?_|refine Aa (B3 l) ?_|refine sq 3 rfl ?_|(refine Av ?_ ?_<;>intro h hq)|fail)
 all_goals first
  |exact CV
  |(exfalso;simp_all;omega)
def cnt (x:Nb) (b:Bool):Nb:=
 {x with att:=(if x.att=255 then x.att/2 else x.att)+1,ack:=(if x.att=255 then x.ack/2 else x.ack)+(if b=true then 1 else 0)}
theorem Z6 {x:Nb} {b:Bool} (h:(0<=x.att/\x.att<=255)/\0<=x.ack/\x.ack<=x.att):(1<=(cnt x b).att/\(cnt x b).att<=255)/\0<=(cnt x b).ack/\(cnt x b).ack<=(cnt x b).att:=by
 unfold cnt;cases b<;>dsimp only<;>split<;>simp<;>omega
theorem H5 {l:List Nb} {i j:Nat} {x:Nb} (hi:i<l.length):(l.set i x).getD j default=if j=i then x else l.getD j default:=by
 by_cases h:j=i
 ·subst h;simp[Ajt,hi]
 ·simp[Ajt,h,AjR (Ne.symm h)]
theorem Aaa {l:List Nb} {i:Nat} {b:Bool} (h:checkNb l=0) (hi:i<l.length):checkNb (l.set i (cnt (l.getD i default) b))=0:=by
 obtain⟨hlen,hall⟩:=Bu h;have hx:=(CT (hall _ hi)).2;have key:∀k,k<(l.set i (cnt (l.getD i default) b)).length->Hq (l.set i (cnt (l.getD i default) b)) k=0:=by
  intro k hk;rw[AjJ] at hk;have h0:=hall k hk;have hc:=@Z6 _ b hx;have hnode:∀j,((l.set i (cnt (l.getD i default) b)).getD j default).node=(l.getD j default).node:=fun j=>by
   rw[H5 hi];split
   ·rename_i e;rw[e];rfl
   ·rfl
  have hr:C5 ((l.set i (cnt (l.getD i default) b)).getD k default).node ((l.set i (cnt (l.getD i default) b)).getD k default).epoch ((l.set i (cnt (l.getD i default) b)).getD k default).rank ((l.set i (cnt (l.getD i default) b)).getD k default).slot
    = C5 (l.getD k default).node (l.getD k default).epoch (l.getD k default).rank (l.getD k default).slot:=by
   rw[H5 hi];split
   ·rename_i e;rw[e];rfl
   ·rfl
  have ha:inR ((l.set i (cnt (l.getD i default) b)).getD k default).att 0 255=true:=by
   rw[H5 hi,CZ];split
   ·omega
   ·have:=(CT h0).2.1;omega
  have hb:inR ((l.set i (cnt (l.getD i default) b)).getD k default).ack 0 ((l.set i (cnt (l.getD i default) b)).getD k default).att=true:=by
   rw[H5 hi,CZ];split
   ·omega
   ·have:=(CT h0).2.2;omega
  have hh:=(CT h0).1;unfold Hq at h0 ⊢;dsimp only at h0 ⊢;rw[hr,ha,hb,hnode,hnode];have ha0:inR (l.getD k default).att 0 255=true:=by rw[CZ];have:=(CT (hall k hk)).2.1;omega
  have hb0:inR (l.getD k default).ack 0 (l.getD k default).att=true:=by rw[CZ];have:=(CT (hall k hk)).2.2;omega
  rw[ha0,hb0] at h0;exact h0
 unfold checkNb;rw[AjJ,Akb (by omega)];exact De fun k hk=>key k (by rw[AjJ];exact hk)
abbrev bls (l:List Bool):D:=Hj (fun b=>[.bool b]) 1 l
instance:Overlaps Tryz.prog 252:=
 ⟨43,4,93,6,AT.slice Tryz.Acv rfl,fun w=>AT.Bx Tryz.Acs w,fun args w=>run_callFunc_extern func252 (by kernel_rfl) (by kernel_rfl) (by kernel_rfl) (by kernel_rfl) args w⟩
abbrev BA (l:List Nb) (i:Nat) (x:Nb):List Nb:=l.take i++x :: l.drop i
abbrev nb1 (x:Nb):D:=.rd 1 6 fun _ j=>x.enc.getD j .Df
theorem Zh (l:List Nb) (i:Nat) (x:Nb):rowOf Nb.enc (BA l i x)=List.take i (rowOf Nb.enc l)++(Nb.enc x).map C.d :: List.drop i (rowOf Nb.enc l):=by
 rw[BA,AF,Dj,Fv]
 rfl
theorem TM (l:List Nb) (i:Nat) (x:Nb) (hl:l.length<=100000) (hi:i<=l.length):FnS Tryz.prog 181 [.c (.row 0 l.length),AI i,AD (nb1 x)] [(0,.row 93 6 (rowOf Nb.enc l))]
  (.c (.row 1 (l.length+1))) [(1,.row 93 6 (rowOf Nb.enc (BA l i x)))]:=by
 refine FnS.Bv (enters_of func181 (by kernel_rfl) rfl) func181 rfl ntmps181 results181 rfl (by first|rfl|(simp only[BC,wfL,Bj,AkD,AkJ,Bi];rfl)) rfl fun E=>?_
 refine AG ?_
 repeat'(first|refine AJ ?_|refine AQ ?_|refine Ap ?_|refine Bb ?_|refine sq 8 rfl ?_|(refine Av ?_ ?_<;>intro h hq)|fail)
 ·have e:i=l.length:=by omega
  subst e;refine Ag (A0 (l:=[(6,.c (.row 1 (l.length+1)))]) (b:=[(1,.row 93 6 (rowOf Nb.enc (BA l l.length x)))]) (fun n=>if n=1 then 25 else n) ⟨⟨_,rfl,.c (.row rfl rfl)⟩,tt0⟩
   ⟨⟨_,rfl,.CJ ?_ Ai⟩,tt0⟩ rfl (by simp only[wfL,AkD,AkJ,Bi];rfl)) (BI Ae rfl rfl)
  rw[BA,AkB,List.drop_length,AF]
  rfl
 ·refine E4 (nm:=0) rfl (F6 (by omega)) fun cp spare hcp hmax=>?_
  rw[An] at hcp
  repeat'(first|refine AJ ?_|refine GJ (gk rfl) rfl rfl rfl (by exact .full) (by omega) rfl rfl rfl ?_|refine DO (gk rfl) rfl rfl rfl rfl rfl rfl rfl rfl rfl rfl (by omega) (by(simp only[An,AjJ,Ajy,AjD,AjG,AjH];omega)) (by omega) (by(try dsimp only);omega) rfl rfl ?_|refine BT ?_|refine Bb ?_|refine Hy (gk rfl) rfl rfl (by exact .sub) rfl (by first|exact .src .rd|exact .tail rfl (by(simp only[An,AjJ,Ajy,AjD,AjG,AjH];omega)) (by omega)) rfl rfl rfl (by(simp only[An,AjJ,Ajy,AjD,AjG,AjH];omega)) (by omega) rfl ?_|refine GK (gk rfl) rfl rfl rfl rfl ?_|refine sq 10 rfl ?_|(refine Av ?_ ?_<;>intro h hq)|fail)
  ·have hq1:((l.length:Int)+(1:Nat)-i).toNat=l.length+1-i:=by omega
   refine E4 (nm:=40) rfl (by
    intro e;have:=congrArg List.length e;rw[Ajy,AjH] at this;change _+_=0 at this;omega) fun cp2 spare2 hcp2 hmax2=>?_
   rw[Ajy,AjH,AjD,An] at hcp2
   repeat'(first|refine Ad ?_|refine Bb ?_|refine Hy (gk rfl) rfl rfl (by exact .sub) rfl (by first|exact .src .rd|exact .src (.sub rfl (by exact .full) (by(simp only[An,AjJ,Ajy,AjD,AjG,AjH];omega)))) rfl rfl rfl (by(simp only[An,AjJ,Ajy,AjD,AjG,AjH];omega)) (by omega) rfl ?_|fail)
   refine Ag (A0 (l:=[(6,.c (.row 1 (l.length+1)))]) (b:=[(1,.row 93 6 (rowOf Nb.enc (BA l i x)))]) (fun n=>if n=1 then 40 else n) ⟨⟨_,rfl,.c (.row rfl (by omega))⟩,tt0⟩
    ⟨⟨_,rfl,.KW (l.length+1) ?_⟩,tt0⟩ rfl (by simp only[wfL,AkD,AkJ,Bi];rfl)) (BI Ae rfl rfl)
   rw[hq1,show min 1 (i+(l.length+1-i)-i)=1 by omega,show min (l.length-i) (i+(l.length+1-i)-(i+1))=l.length-i by omega];exact(Lv (y:=(Nb.enc x).map C.d) (An (enc:=Nb.enc)) (by omega) rfl).trans (Zh l i x).symm
  ·refine Ag (A0 (l:=[(6,.c (.row 1 (l.length+1)))]) (b:=[(1,.row 93 6 (rowOf Nb.enc (BA l i x)))]) (fun n=>if n=1 then 0 else n) ⟨⟨_,rfl,.c (.row rfl rfl)⟩,tt0⟩
    ⟨⟨_,rfl,.KW (l.length+1) ?_⟩,tt0⟩ rfl (by simp only[wfL,AkD,AkJ,Bi];rfl)) (BI Ae rfl rfl)
   rw[show min 1 (l.length+1-i)=1 by omega,show min (l.length+1-i) (l.length+1-(i+1))=l.length-i by omega];exact(Lu (y:=(Nb.enc x).map C.d) (An (enc:=Nb.enc)) (by omega)).trans (Zh l i x).symm
def Sk (x:Nb) (e k s:Int):Nb:={x with epoch:=e,rank:=k,slot:=s}
def Pf (t:Int):Nb:=⟨t,0,0,0,0,0⟩
def HP (l:List Nb) (t:Int):Nb:=if BD l t=true then l.getD (CG l t) default else Pf t
def K3 (l:List Nb) (t e k s:Int):List Nb:=if BD l t=true then l.set (CG l t) (Sk (l.getD (CG l t) default) e k s) else BA l (CG l t) (Sk (Pf t) e k s)
def hearM (l:List Nb) (t e k s:Int):List Nb×Int:=if checkNb l≠0 then([],1) else if C5 t e k s=false then([],2) else if s<(HP l t).slot then([],15) else(K3 l t e k s,0)
theorem TW (l:List Nb) (t e k s:Int) (h:checkNb l=0) (hr:C5 t e k s=true) (hs:¬s<(HP l t).slot) (hf:BD l t=true):Ak 131 [AD (nbs l),AI t,AI e,AI k,AI s] (.tup [AD (nbs (K3 l t e k s)),AI 0]):=by
 have hck:=B3 l;rw[h] at hck;have hh:=DF t e k s;rw[hr] at hh;obtain⟨hlen,hall⟩:=Bu h;have hfd:=find_spec l t (by omega);rw[HP,Akc hf] at hs;rw[hf] at hfd;have hi:=(BP.1 hf).1;have hn:=(BP.1 hf).2;rw[K3,Akc hf];generalize CG l t=i at *;refine Ao func131 ntmps131 results131 fun E hS=>?_
 refine AG ?_
 repeat'(first|refine Ad ?_|refine Aa (hck) ?_|refine Aa (hh) ?_|refine Aa (hfd) ?_|refine Aa (D7 l (by omega)) ?_|refine A5 ?_|refine AS ?_|refine AY ?_|(refine Av ?_ ?_<;>intro h hq)|fail)
 all_goals try (exfalso;omega)
 refine GR (A0 (l:=[(10,.c (.row 7 (l.set i (Sk (l.getD i default) e k s)).length)),(11,AI 0)]) (b:=[(7,.row 93 6 (rowOf Nb.enc (l.set i (Sk (l.getD i default) e k s))))]) (fun n=>if n=7 then 58007 else n) ⟨⟨_,rfl,.c (.row rfl (by simp))⟩,⟨_,rfl,.c .d⟩,tt0⟩
   ⟨⟨_,rfl,.CJ (CC ?_) Ai⟩,tt0⟩ rfl (by simp only[wfL,AkD,AkJ,Bi];rfl)) ?_
 ·rw[<-hn];rfl
 exact Ag (Cu (l:=[(10,AD (nbs (l.set i (Sk (l.getD i default) e k s)))),(11,AI 0)]) (b:=[]) (fun n=>n) [7] hS) Bg
theorem Zv (l:List Nb) (t e k s:Int) (h:checkNb l=0) (hr:C5 t e k s=true) (hf:BD l t=false):Ak 131 [AD (nbs l),AI t,AI e,AI k,AI s] (.tup [AD (nbs (K3 l t e k s)),AI 0]):=by
 have hck:=B3 l;rw[h] at hck;have hh:=DF t e k s;rw[hr] at hh;obtain⟨hlen,hall⟩:=Bu h;have hfd:=find_spec l t (by omega);rw[hf] at hfd;have hi:=(Jm h t).1;rw[K3,Akb (by rw[hf];simp)];generalize CG l t=i at *;have hins:=TM l i (Sk (Pf t) e k s) (by omega) hi;have hil:(BA l i (Sk (Pf t) e k s)).length=l.length+1:=by simp[BA];omega
 refine Ao func131 ntmps131 results131 fun E hS=>?_
 refine AG ?_
 repeat'(first|refine Ad ?_|refine Aa (hck) ?_|refine Aa (hh) ?_|refine Aa (hfd) ?_|refine Aa (D7 l (by omega)) ?_|refine Cx [42] (hins) Ai ?_|fail)
 exact Ag (Cu (l:=[(10,AD (nbs (BA l i (Sk (Pf t) e k s)))),(11,AI 0)]) (b:=[]) (fun n=>n) [43001] hS) Bg
theorem Zw (l:List Nb) (t e k s:Int) (h:checkNb l≠0):Ak 131 [AD (nbs l),AI t,AI e,AI k,AI s] (.tup [AD (nbs []),AI 1]):=by
 have d1:decide (checkNb l≠0)=true:=Aju h;refine Ao func131 ntmps131 results131 fun E hS=>?_
 refine AG ?_
 repeat'(first|refine Ad ?_|refine Aa (B3 l) ?_|fail)
 exact Ag (Al (l:=[(10,AD (nbs [])),(11,AI 1)]) (b:=[])) Bg
theorem TV (l:List Nb) (t e k s:Int) (h:checkNb l=0) (hr:C5 t e k s=false):Ak 131 [AD (nbs l),AI t,AI e,AI k,AI s] (.tup [AD (nbs []),AI 2]):=by
 have hck:=B3 l;rw[h] at hck;have hh:=DF t e k s;rw[hr] at hh;refine Ao func131 ntmps131 results131 fun E hS=>?_
 refine AG ?_
 repeat'(first|refine Ad ?_|refine Aa (hck) ?_|refine Aa (hh) ?_|fail)
 exact Ag (Al (l:=[(10,AD (nbs [])),(11,AI 2)]) (b:=[])) Bg
theorem WV (l:List Nb) (t e k s:Int) (h:checkNb l=0) (hr:C5 t e k s=true) (hs:s<(HP l t).slot):Ak 131 [AD (nbs l),AI t,AI e,AI k,AI s] (.tup [AD (nbs []),AI 15]):=by
 have hck:=B3 l;rw[h] at hck;have hh:=DF t e k s;rw[hr] at hh;obtain⟨hlen,hall⟩:=Bu h;have hfd:=find_spec l t (by omega);have hf:BD l t=true:=by
  cases hf:BD l t with
  |true=>rfl
  |false=>
   rw[HP,hf] at hs;simp only[C5,AjE,CZ] at hr;have:s<0:=hs;omega
 rw[HP,Akc hf] at hs;rw[hf] at hfd;have hi:=(BP.1 hf).1;have d9:decide (s<(l.getD (CG l t) default).slot)=true:=Aju hs;generalize CG l t=i at *;refine Ao func131 ntmps131 results131 fun E hS=>?_
 refine AG ?_
 repeat'(first|refine Ad ?_|refine Aa (hck) ?_|refine Aa (hh) ?_|refine Aa (hfd) ?_|fail)
 exact Ag (Al (l:=[(10,AD (nbs [])),(11,AI 15)]) (b:=[])) Bg
theorem Zu (l:List Nb) (t e k s:Int):Ak 131 [AD (nbs l),AI t,AI e,AI k,AI s] (.tup [AD (nbs (hearM l t e k s).1),AI (hearM l t e k s).2]):=by
 unfold hearM;by_cases h:checkNb l=0
 ·rw[Akb (by simp[h])];cases hr:C5 t e k s with
  |false=>
   rw[Akc rfl];exact TV l t e k s h hr
  |true=>
   rw[Akb (by simp)];by_cases hs:s<(HP l t).slot
   ·rw[Akc hs];exact WV l t e k s h hr hs
   ·rw[Akb hs];cases hf:BD l t with
    |true=>exact TW l t e k s h hr hs hf
    |false=>exact Zv l t e k s h hr hf
 ·rw[Akc h];exact Zw l t e k s h
def countM (l:List Nb) (t:Int) (b:Bool):List Nb×Int:=if checkNb l≠0 then([],1) else if BD l t=false then([],7) else(l.set (CG l t) (cnt (l.getD (CG l t) default) b),0)
theorem Z5 (l:List Nb) (t:Int) (b:Bool) (h:checkNb l=0) (hf:BD l t=true):Ak 132 [AD (nbs l),AI t,AB b] (.tup [AD (nbs (l.set (CG l t) (cnt (l.getD (CG l t) default) b))),AI 0]):=by
 obtain⟨hlen,hall⟩:=Bu h;have hck:=B3 l;rw[h] at hck;have hfd:=find_spec l t (by omega);rw[hf] at hfd;have hi:CG l t<l.length:=by
  simp only[BD,AjE,Ajw] at hf;exact hf.1
 have hx:=(CT (hall _ hi)).2;generalize CG l t=i at *;refine Ao func132 ntmps132 results132 fun E hS=>?_
 refine AG ?_
 repeat'(first|refine Ad ?_|refine Aa (hck) ?_|refine Aa (hfd) ?_|refine Aa (D7 l (by omega)) ?_|refine AS ?_|refine EH (gk rfl) rfl rfl ?_|refine BY (gk rfl) rfl rfl (by omega) rfl rfl rfl ?_|refine Qc (gk rfl) rfl rfl (by omega) rfl rfl rfl ?_|refine AY ?_|refine Jv (gk rfl) rfl rfl rfl (by omega) rfl rfl rfl ?_|(refine Av ?_ ?_<;>intro h hq)|fail)
 all_goals
  refine GR (A0 (l:=[(6,.c (.row 24007 (l.set i (cnt (l.getD i default) b)).length)),(7,AI 0)]) (b:=[(24007,.row 93 6 (rowOf Nb.enc (l.set i (cnt (l.getD i default) b))))]) (fun n=>n) ⟨⟨_,rfl,.c (.row rfl (by simp))⟩,⟨_,rfl,.c .d⟩,tt0⟩
   ⟨⟨_,rfl,.CJ (CC ?_) Ai⟩,tt0⟩ rfl (by simp only[wfL,AkD,AkJ,Bi];rfl)) ?_
  ·generalize l.getD i default=x at *;simp[cnt,Nb.enc,EJ, *]
 ·exact Ag (Cu (l:=[(6,AD (nbs (l.set i (cnt (l.getD i default) b)))),(7,AI 0)]) (b:=[]) (fun n=>n) [24007] hS) Bg
 ·exact Ag (Cu (l:=[(6,AD (nbs (l.set i (cnt (l.getD i default) b)))),(7,AI 0)]) (b:=[]) (fun n=>n) [24007] hS) Bg
 ·exact Ag (Cu (l:=[(6,AD (nbs (l.set i (cnt (l.getD i default) b)))),(7,AI 0)]) (b:=[]) (fun n=>n) [24007] hS) Bg
 ·exact Ag (Cu (l:=[(6,AD (nbs (l.set i (cnt (l.getD i default) b)))),(7,AI 0)]) (b:=[]) (fun n=>n) [24007] hS) Bg
theorem Xi (l:List Nb) (t:Int) (b:Bool) (h:checkNb l≠0):Ak 132 [AD (nbs l),AI t,AB b] (.tup [AD (nbs []),AI 1]):=by
 have d1:decide (checkNb l≠0)=true:=Aju h;refine Ao func132 ntmps132 results132 fun E hS=>?_
 refine AG ?_
 repeat'(first|refine Ad ?_|refine Aa (B3 l) ?_|fail)
 exact Ag (Al (l:=[(6,AD (nbs [])),(7,AI 1)]) (b:=[])) Bg
theorem Uh (l:List Nb) (t:Int) (b:Bool) (h:checkNb l=0) (hf:BD l t=false):Ak 132 [AD (nbs l),AI t,AB b] (.tup [AD (nbs []),AI 7]):=by
 obtain⟨hlen,_⟩:=Bu h;have hck:=B3 l;rw[h] at hck;have hfd:=find_spec l t (by omega);rw[hf] at hfd;refine Ao func132 ntmps132 results132 fun E hS=>?_
 refine AG ?_
 repeat'(first|refine Ad ?_|refine Aa (hck) ?_|refine Aa (hfd) ?_|fail)
 exact Ag (Al (l:=[(6,AD (nbs [])),(7,AI 7)]) (b:=[])) Bg
theorem Xh (l:List Nb) (t:Int) (b:Bool):Ak 132 [AD (nbs l),AI t,AB b] (.tup [AD (nbs (countM l t b).1),AI (countM l t b).2]):=by
 unfold countM;by_cases h:checkNb l=0
 ·rw[Akb (by simp[h])];cases hf:BD l t with
  |false=>
   rw[Akc rfl];exact Uh l t b h hf
  |true=>
   rw[Akb (by simp)];exact Z5 l t b h hf
 ·rw[Akc h];exact Xi l t b h
def forgetM (l:List Nb) (slot age:Int):List Nb:=if checkNb l=0/\0<=slot/\0<=age then kept l slot age else l
theorem W7 (l:List Nb) (slot age:Int) (h:checkNb l=0/\0<=slot/\0<=age):Ak 134 [AD (nbs l),AI slot,AI age] (AD (nbs (kept l slot age))):=by
 obtain⟨hlen,_⟩:=Bu h.1;have hck:=B3 l;rw[h.1] at hck;have h2:=h.2.1;have h3:=h.2.2;have d1:decide (slot<0)=false:=by simp;omega
 have d2:decide (age<0)=false:=by simp;omega
 refine Ao func134 ntmps134 results134 fun E hS=>?_
 refine AG ?_
 repeat'(first|refine Ad ?_|refine Aa (hck) ?_|refine Aa (D7 l (by omega)) ?_|refine Jx [4,5] (Ab1 l (Aek slot age) (by omega)) (gk rfl) rfl rfl Ai rfl (by(repeat'(first|exact .nil|refine .cons ?_ ?_|exact(T5 rfl rfl)))<;>fail) rfl (by exact Zn (fun _=>rfl)) rfl (by(simp only[BC,wfL,Bj,AkD,AkJ,Bi];rfl)) rfl (by exact Ob) rfl ?_|fail)
 exact Ag (Cu (l:=[(6,AD (nbs (kept l slot age)))]) (b:=[]) (fun n=>n) [22000] hS) CV
theorem T4 (l:List Nb) (slot age:Int):Ak 134 [AD (nbs l),AI slot,AI age] (AD (nbs (forgetM l slot age))):=by
 unfold forgetM;by_cases h:checkNb l=0/\0<=slot/\0<=age
 ·rw[Akc h];exact W7 l slot age h
 ·rw[Akb h];exact W8 l slot age (by
   by_cases h1:checkNb l=0
   ·exact .inr (by by_cases h2:0<=slot
                   ·exact .inr (by by_cases h3:0<=age
                                   ·exact absurd ⟨h1,h2,h3⟩ h
                                   ·omega)
                   ·exact .inl (by omega))
   ·exact .inl h1)
theorem PH {l:List Nb} (hlen:l.length<=32) (hr:∀k,k<l.length->C5 (l.getD k default).node (l.getD k default).epoch (l.getD k default).rank (l.getD k default).slot=true/\(0<=(l.getD k default).att/\(l.getD k default).att<=255)/\0<=(l.getD k default).ack/\(l.getD k default).ack<=(l.getD k default).att)
  (hm:∀k,0<k->k<l.length->(l.getD (k-1) default).node<(l.getD k default).node):checkNb l=0:=by
 unfold checkNb;rw[Akb (by omega)];refine De fun k hk=>?_
 obtain⟨h1,h2,h3⟩:=hr k hk;unfold Hq;dsimp only;have ha:inR (l.getD k default).att 0 255=true:=by rw[CZ];exact h2
 have hb:inR (l.getD k default).ack 0 (l.getD k default).att=true:=by rw[CZ];exact h3
 rw[h1,ha,hb];simp only[Bool.and_self,if_true];rw[Akb];rintro⟨h0,hle⟩;have:=hm k h0 hk;omega
theorem Pr {l:List Nb} {i j:Nat} {y:Nb} (hi:i<=l.length):(BA l i y).getD j default=if j<i then l.getD j default else if j=i then y else l.getD (j-1) default:=by
 unfold BA;simp only[Ajt];have hl:(l.take i).length=i:=by rw[AjD];omega
 split
 ·rw[Akv (by omega),List.getElem?_take_of_lt (by assumption)]
 ·rw[AkE (by omega),hl]
  split
  ·rename_i h;subst h;simp
  ·obtain⟨m,hm⟩:∃m,j-i=m+1:=⟨j-i-1,by omega⟩;rw[hm,List.getElem?_cons_succ,AkI]
   congr 2
   omega
theorem TN {l:List Nb} {i:Nat} {y:Nb} (hi:i<=l.length):(BA l i y).length=l.length+1:=by
 simp only[BA,Ajy,AjD,Akx,AjG];omega
theorem Aeu {l:List Nb} (h:checkNb l=0):∀k,k<l.length->(k:Int)<=(l.getD k default).node:=by
 intro k
 induction k with
 |zero=>intro hk;have:=(DN h hk).2.1;simpa using this
 |succ k ih=>
  intro hk;have h1:=ih (by omega);have h2:=WE h (i:=k+1) (by omega) hk;simp only[Nat.add_sub_cancel] at h2
  push_cast
  omega
theorem Abt {l:List Nb} (h:checkNb l=0) {t:Int} (ht:0<=t/\t<=31) (hf:BD l t=false):l.length<=31:=by
 obtain⟨b1,b2,b3⟩:=Jm h t;have hti:(CG l t:Int)<=t:=by
  rcases Ak9 (CG l t) with h0|h0
  ·rw[h0];simpa using ht.1
  ·have h1:=b2 (CG l t-1) (by omega);have h2:=Aeu h (CG l t-1) (by omega);omega
 by_cases hlt:CG l t<l.length
 ·have hne:(l.getD (CG l t) default).node≠t:=fun e=>by
   have:=BP.2 ⟨hlt,e⟩;rw[hf] at this;cases this
  have key:∀j,CG l t+j<l.length->t+1+j<=(l.getD (CG l t+j) default).node:=by
   intro j
   induction j with
   |zero=>intro hj;have:=b3 _ (Akd _) hlt;simp only[AkX] at *;omega
   |succ j ih=>
    intro hj;have h1:=ih (by omega);have h2:=WE h (i:=CG l t+(j+1)) (by omega) hj;rw[show CG l t+(j+1)-1=CG l t+j by omega] at h2
    push_cast
    omega
  have h1:=key (l.length-1-CG l t) (by omega);have h2:=(DN h (k:=CG l t+(l.length-1-CG l t)) (by omega)).2.2;omega
 ·omega
theorem WX {l:List Nb} (h:checkNb l=0) {t e k s:Int} (hr:C5 t e k s=true):checkNb (K3 l t e k s)=0:=by
 obtain⟨hlen,hall⟩:=Bu h;obtain⟨b1,b2,b3⟩:=Jm h t;unfold K3;cases hf:BD l t with
 |true=>
  obtain⟨hi,hn⟩:=BP.1 hf;simp only[if_true];have hnode:∀j,((l.set (CG l t) (Sk (l.getD (CG l t) default) e k s)).getD j default).node=(l.getD j default).node:=fun j=>by
   rw[H5 hi];split
   ·rename_i e;rw[e];rfl
   ·rfl
  refine PH (by rw[AjJ];omega) (fun j hj=>?_) (fun j h0 hj=>?_)
  ·rw[AjJ] at hj;have hx:=CT (hall _ hi);rw[H5 hi];split
   ·refine⟨?_,hx.2⟩;show C5 (l.getD (CG l t) default).node e k s=true;rw[hn];exact hr
   ·exact CT (hall _ hj)
  ·rw[AjJ] at hj;rw[hnode,hnode];exact WE h h0 hj
 |false=>
  simp only[Akr,if_false];have ht:0<=t/\t<=31:=by simp only[C5,AjE,CZ] at hr;omega
  have hroom:=Abt h ht hf;refine PH (by rw[TN b1];omega) (fun j hj=>?_) (fun j h0 hj=>?_)
  ·rw[TN b1] at hj;rw[Pr b1]
   split
   ·exact CT (hall _ (by omega))
   ·split
    ·exact⟨hr,by simp[Sk,Pf],by simp[Sk,Pf]⟩
    ·exact CT (hall _ (by omega))
  ·rw[TN b1] at hj;rw[Pr b1,Pr b1];have hne:CG l t<l.length->(l.getD (CG l t) default).node≠t:=fun hlt e=>by
    have:=BP.2 ⟨hlt,e⟩;rw[hf] at this;cases this
   by_cases h1:j<CG l t
   ·rw[Akc (by omega),Akc h1];exact WE h h0 (by omega)
   ·by_cases h2:j=CG l t
    ·rw[Akc (by omega),Akb h1,Akc h2];exact b2 _ (by omega)
    ·rw[Akb (by omega),Akb h1,Akb h2];by_cases h3:j-1=CG l t
     ·rw[Akc h3];have h4:=b3 (j-1) (by omega) (by omega);have h5:=hne (by omega);rw[<-h3] at h5;show t<_;omega
     ·rw[Akb h3];exact WE h (by omega) (by omega)
theorem QJ (l:List Nb) (t e k s:Int) (h:checkNb l=0) (hr:C5 t e k s=false):Ak 101 [AD (nbs l),AI t,AI e,AI k,AI s] (.tup [AD .Df,AI 2]):=by
 have hck:=CQ l;rw[h] at hck;have hh:=Fm t e k s;rw[hr] at hh;refine Ao func101 ntmps101 results101 fun E hS=>?_
 repeat'(first|refine Ad ?_|refine Aa (hck) ?_|refine Aa (hh) ?_|fail)
 all_goals exact Bg
def Nb.AhB (x:Nb):List C:=x.enc.map C.d
def EU (l:List Nb) (t:Int) (i m:Nat) (y:Nb):List Nb:=l.take i++y :: ((l.take m).drop i).filter fun x=>decide (x.node≠t)
theorem F8 (l:List Nb) (t:Int) (i:Nat) (y:Nb):EU l t i i y=l.take i++[y]:=by
 simp[EU,List.drop_take]
theorem N0 (l:List Nb) (t:Int) (i m:Nat) (y:Nb):(EU l t i m y).length<=l.length+l.length+1:=by
 have:=Aj4 (fun x:Nb=>decide (x.node≠t)) ((l.take m).drop i);simp only[EU,Ajy,Akx,AjD,AjG] at this ⊢;omega
theorem GS {l:List Nb} {t:Int} {i m:Nat} {y:Nb} (h:i<=m) (hm:m<l.length):EU l t i (m+1) y=if(l.getD m default).node=t then EU l t i m y else EU l t i m y++[l.getD m default]:=by
 unfold EU;rw[Bq hm,List.drop_append_of_le_length (by rw[AjD];omega),Akw]
 split
 ·rename_i e;rw[AkA (by simp only[ne_eq,decide_not,Bool.not_eq_true',Ajx,AjF];exact e)];simp
 ·rename_i e;rw[AkL (by simpa using e)];simp
theorem Ri (l:List Nb) (slot age:Int) {k:Nat} (hk:k<l.length):kept (l.take (k+1)) slot age=if Aek slot age (l.getD k default)=true then kept (l.take k) slot age else kept (l.take k) slot age++[l.getD k default]:=by
 unfold kept;rw[Bq hk,Akw]
 split
 ·rename_i h;rw[AkA (by rw[h];simp)];simp
 ·rename_i h;rw[AkL (by simpa using h)];rfl
theorem AbB (l:List Nb) (slot age:Int):(kept l slot age).length<=l.length:=Aj4 ..
theorem Aid {x y:Nb} (h:[SV.int IntKind.i64 x.ack,SV.int IntKind.i64 x.att,SV.int IntKind.i64 x.slot,SV.int IntKind.i64 x.rank,SV.int IntKind.i64 x.epoch,SV.int IntKind.i64 x.node].reverse=
  [SV.int IntKind.i64 y.ack,SV.int IntKind.i64 y.att,SV.int IntKind.i64 y.slot,SV.int IntKind.i64 y.rank,SV.int IntKind.i64 y.epoch,SV.int IntKind.i64 y.node].reverse):x=y:=by
 have h:=List.reverse_inj.1 h;cases x;cases y;simp only[Ak6,SV.int.injEq,true_and,and_true] at h;obtain⟨rfl,rfl,rfl,rfl,rfl,rfl⟩:=h
 rfl
theorem EX {a b:List Nb} (hl:a.length=b.length) (h:∀i,i<a.length->a.getD i default=b.getD i default):a=b:=by
 apply List.ext_getElem hl
 intro i h1 h2;have:=h i h1;simpa [Ajt,h1,h2] using this
theorem HG (a b:List Nb):Ak 51 [AD (nbs a),AD (nbs b)] (AB (decide (a=b))):=by
 refine Ao func51 ntmps51 results51 fun E hS=>?_
 refine Bz (t:=0) rfl fun hb=>?_
 repeat'(first|refine Af ?_|(refine Av ?_ ?_<;>intro h hq)|fail)
 ·refine Aq Ae rfl ?_;have:a≠b:=fun e=>by subst e;simp_all
  simp[this]
 ·refine Ax (ι:=Nat) (fun k=>AN [(0,AD (nbs a)),(1,AD (nbs b)),(5,AI k)] []) (fun k=>k<=a.length/\∀i,i<k->a.getD i default=b.getD i default) (fun k=>a.length-k) 0 ⟨Ake _,fun i hi=>absurd hi (Aj9 _)⟩ ?_ ?_
  ·exact By ⟨rfl,rfl,rfl,tt0⟩ trivial rfl
  ·rintro k ⟨hk,hall⟩
   repeat'(first|refine Af ?_|refine Gc (gk rfl) rfl rfl rfl rfl rfl rfl rfl ?_|(refine Av ?_ ?_<;>intro h hq)|fail)
   ·refine Aq Ae rfl ?_;have:a≠b:=fun e=>hq (by rw[e])
    simp[this]
   ·refine⟨k+1,⟨by omega,fun i hi=>?_⟩,by omega,By ⟨rfl,rfl,rfl,tt0⟩ trivial rfl⟩;by_cases hik:i<k
    ·exact hall i hik
    ·have:i=k:=by omega
     subst this;exact Aid hq
   ·refine Aq Ae rfl ?_;have:a=b:=EX (by omega) fun i hi=>hall i (by omega)
    simp[this]
theorem Tn (l:List Nb) (t e k s:Int) (h:checkNb l=0) (hr:C5 t e k s=true) (hs:s<(HP l t).slot):Ak 101 [AD (nbs l),AI t,AI e,AI k,AI s] (.tup [AD .Df,AI 15]):=by
 have hck:=CQ l;rw[h] at hck;have hh:=Fm t e k s;rw[hr] at hh;have hix:=CP l t;rw[HO h] at hix;have hf:BD l t=true:=by
  cases hf:BD l t with
  |true=>rfl
  |false=>
   rw[HP,hf] at hs;simp only[C5,AjE,CZ] at hr;have:s<0:=hs;omega
 rw[HP,Akc hf] at hs;rw[Akc hf] at hix;have hi:=(BP.1 hf).1;generalize CG l t=i at *;have hix':Ak 150 [AD (nbs l),AI t] (AI (i:Nat)):=hix;refine Ao func101 ntmps101 results101 fun E hS=>?_
 repeat'(first|refine AJ ?_|refine Aa (hck) ?_|refine Aa (hh) ?_|refine Aa (hix') ?_|refine sq 12 rfl ?_|(refine Av ?_ ?_<;>intro h hq)|fail)
 all_goals first
  |exact Bg
  |(exfalso;omega)
theorem QL (l:List Nb) (t:Int) (b:Bool) (h:checkNb l=0) (hf:BD l t=false):Ak 102 [AD (nbs l),AI t,AB b] (.tup [AD .Df,AI 7]):=by
 have hck:=CQ l;rw[h] at hck;have hix:=CP l t;rw[HO h,Akb (by rw[hf];simp)] at hix;have hix':Ak 150 [AD (nbs l),AI t] (AI (-1)):=hix;refine Ao func102 ntmps102 results102 fun E hS=>?_
 repeat'(first|refine Ad ?_|refine Aa (hck) ?_|refine Aa (hix') ?_|fail)
 all_goals exact Bg
theorem AbJ {l:List Nb} (h:checkNb l=0) (t e k s:Int):EU l t (CG l t) l.length (Sk (HP l t) e k s)=K3 l t e k s:=by
 obtain⟨b1,b2,b3⟩:=Jm h t;unfold EU K3 HP;rw[AkB];have hmem:∀j,∀x∈l.drop j,∃m,j<=m/\m<l.length/\x=l.getD m default:=by
  intro j x hx;obtain⟨m,hm,rfl⟩:=AkG hx;rw[AjG] at hm;refine⟨j+m,by omega,by omega,?_⟩;rw[List.getElem_drop,Ajt,AjC (by omega)];rfl
 cases hf:BD l t with
 |true=>
  obtain⟨hi,hn⟩:=BP.1 hf;simp only[if_true];have hd:l.drop (CG l t)=l.getD (CG l t) default :: l.drop (CG l t+1):=by
   rw[AkV hi,Ajt,AjC hi];rfl
  have hfil:(l.drop (CG l t+1)).filter (fun x=>decide (x.node≠t))=l.drop (CG l t+1):=by
   rw[List.filter_eq_self];intro x hx;obtain⟨m,h1,h2,rfl⟩:=hmem _ x hx;have:=Jg h (show CG l t<m by omega) h2;exact Aju (by omega)
  rw[hd,AkA (by simp only[ne_eq,decide_not,Bool.not_eq_true',Ajx,AjF];exact hn),hfil,List.set_eq_take_append_cons_drop,Akc hi]
 |false=>
  simp only[Akr,if_false];have hfil:(l.drop (CG l t)).filter (fun x=>decide (x.node≠t))=l.drop (CG l t):=by
   rw[List.filter_eq_self];intro x hx;obtain⟨m,h1,h2,rfl⟩:=hmem _ x hx;refine Aju fun e=>?_
   have hb:CG l t<l.length:=by omega
   have hge:=b3 _ (Akd _) hb;have:(l.getD (CG l t) default).node=t:=by
    rcases Akf (CG l t) m with h3|h3
    ·have:=Jg h h3 h2;omega
    ·have:m=CG l t:=by omega
     subst this;exact e
   have:=BP.2 ⟨hb,this⟩;rw[hf] at this;cases this
  rw[hfil]
theorem L1 (a:List Nb):Ak 51 [AD (nbs a),AD (nbs a)] (AB true):=by
 have:=HG a a;simpa using this
end Go.Proofs.P
