/-
  What functions of the program hand back, and plain laws on that. No condition.
-/
import Derived.Test.YtdlcbilgemnomaaGreatSxMac
import Derived.Test.YtdlcbilgemnomaaGreatSxLibC
import Derived.Test.YtdlcbilgemnomaaGreatSxMab
set_option linter.unusedSimpArgs false
set_option linter.unusedVariables false
section
namespace Go.Proofs.P
open Go Go.Sx
set_option maxRecDepth 4000
attribute [local irreducible] VR VC thenQ blockQ retL
instance:Overlaps Tryz.prog 252:=
 ⟨43,4,93,6,AM.slice Tryz.YI rfl,fun w=>AM.Bh Tryz.YG w,fun args w=>run_callFunc_extern Tryz.func252 (by kernel_rfl) (by kernel_rfl) (by kernel_rfl) (by kernel_rfl) args w⟩
abbrev Bq (l:List Nb) (i:Nat) (x:Nb):List Nb:=l.take i++x :: l.drop i
abbrev nb1 (x:Nb):D:=.rd 1 6 fun _ j=>x.enc.getD j .Db
theorem Vu (l:List Nb) (i:Nat) (x:Nb):rowOf Nb.enc (Bq l i x)=List.take i (rowOf Nb.enc l)++(Nb.enc x).map C.d :: List.drop i (rowOf Nb.enc l):=by
 rw[Bq,AZ,CN,EA]
 rfl
theorem Qk (l:List Nb) (i:Nat) (x:Nb) (hl:l.length<=100000) (hi:i<=l.length):FnS Tryz.prog 181 [.c (.row 0 l.length),AI i,AD (nb1 x)] [(0,.row 93 6 (rowOf Nb.enc l))]
  (.c (.row 1 (l.length+1))) [(1,.row 93 6 (rowOf Nb.enc (Bq l i x)))]:=by
 refine FnS.Bw (enters_of Tryz.func181 (by kernel_rfl) rfl) Tryz.func181 rfl Tryz.ntmps181 Tryz.results181 rfl (by first|rfl|(simp only[A0,wfL,AH,List.all_cons,List.all_nil,AY];rfl)) rfl fun E=>?_
 refine AJ ?_
 repeat'(first|refine sR ?_|refine Ak rfl (by exact tt0) ?_|(refine gE ?_;first|refine BB (gk rfl) rfl rfl (by exact Al.symm) rfl rfl ?_)|(refine gA ?_;first|refine Be (gk rfl) rfl rfl rfl (by exact Al.symm) (by exact .rd) rfl rfl rfl (by(try dsimp only);omega) rfl rfl ?_)|(show VR _ _ _ (⟨_,.slice _ _ _ _ _,_,_,_,_⟩ :: _) _ _ _;first|refine Bi (gk rfl) rfl rfl (by exact .row) rfl rfl (by exact .int rfl rfl) (by exact .no) (by omega) (by(simp only[Al,Agy,Agn,Ags,Agv,Agw];omega)) (by(simp only[Al,Agy,Agn,Ags,Agv,Agw];omega)) rfl ?_)|refine sq 8 rfl ?_|(refine gD ?_;first|refine Ah rfl ?_|(refine Ay rfl ?_ ?_<;>intro h<;>have hq:=h<;>(try simp only[hqs] at hq)))|fail)
 ·have e:i=l.length:=by omega
  subst e;refine Ao (Am (l:=[(6,.c (.row 1 (l.length+1)))]) (b:=[(1,.row 93 6 (rowOf Nb.enc (Bq l l.length x)))]) (fun n=>if n=1 then 25 else n) ⟨⟨_,rfl,.c (.row rfl rfl)⟩,trivial⟩
   ⟨⟨_,rfl,.Bc ?_ Ag⟩,trivial⟩ rfl (by simp only[wfL,List.all_cons,List.all_nil,AY];rfl)) (Bn Ab rfl rfl)
  rw[Bq,List.take_length,List.drop_length,AZ]
  rfl
 ·refine En (nm:=0) rfl (E3 (by omega)) fun cp spare hcp hmax=>?_
  rw[Al] at hcp
  repeat'(first|refine sR ?_|refine Ak rfl (by first|exact tt0|omega) ?_|(refine gC ?_;first|refine FA (gk rfl) rfl rfl rfl (by exact .full) (by omega) rfl rfl rfl ?_)|(refine gA ?_;first|refine Dk (gk rfl) rfl rfl rfl rfl rfl rfl rfl rfl rfl rfl (by omega) (by(simp only[Al,Agy,Agn,Ags,Agv,Agw];omega)) (by omega) (by(try dsimp only);omega) rfl rfl ?_)|(show VR _ _ _ (⟨_,.slice _ _ _ _ _,_,_,_,_⟩ :: _) _ _ _;first|refine B8 (gk rfl) rfl rfl (by exact .full) rfl rfl (by first|exact .no|exact .int rfl rfl) (by omega) (by omega) rfl ?_|refine Bi (gk rfl) rfl rfl (by exact .full) rfl rfl (by exact .int rfl rfl) (by exact .no) (by omega) (by omega) (by omega) rfl ?_)|(show VR _ _ _ (⟨_,.call ⟨.builtin .copy,_,_⟩,_,_,_,_⟩ :: _) _ _ _;first|refine Gc (gk rfl) rfl rfl (by exact .sub) rfl (by first|exact .src .rd|exact .tail rfl (by(simp only[Al,Agy,Agn,Ags,Agv,Agw];omega)) (by omega)) rfl rfl rfl (by(simp only[Al,Agy,Agn,Ags,Agv,Agw];omega)) (by omega) rfl ?_)|(show VR _ _ _ (⟨_,.call ⟨.builtin .cap,_,_⟩,_,_,_,_⟩ :: _) _ _ _;first|refine FC (gk rfl) rfl rfl rfl rfl ?_)|refine Ap (by kernel_rfl) ?_|refine sq 10 rfl ?_|(refine gD ?_;first|refine Ai rfl ?_|(refine Ay rfl ?_ ?_<;>intro h<;>have hq:=h<;>(try simp only[hqs] at hq)))|fail)
  ·have hq1:((l.length:Int)+(1:Nat)-i).toNat=l.length+1-i:=by omega
   refine En (nm:=40) rfl (by
    intro e;have:=congrArg List.length e;rw[Agn,Agw] at this;change _+_=0 at this;omega) fun cp2 spare2 hcp2 hmax2=>?_
   rw[Agn,Agw,Ags,Al] at hcp2
   repeat'(first|refine sB ?_|refine Ak rfl (by first|exact tt0|omega) ?_|(show VR _ _ _ (⟨_,.slice _ _ _ _ _,_,_,_,_⟩ :: _) _ _ _;first|refine Bi (gk rfl) rfl rfl (by exact .full) rfl rfl (by exact .int rfl rfl) (by exact .no) (by omega) (by omega) (by omega) rfl ?_)|(show VR _ _ _ (⟨_,.call ⟨.builtin .copy,_,_⟩,_,_,_,_⟩ :: _) _ _ _;first|refine Gc (gk rfl) rfl rfl (by exact .sub) rfl (by first|exact .src .rd|exact .src (.sub rfl (by exact .full) (by(simp only[Al,Agy,Agn,Ags,Agv,Agw];omega)))) rfl rfl rfl (by(simp only[Al,Agy,Agn,Ags,Agv,Agw];omega)) (by omega) rfl ?_)|refine Ap (by kernel_rfl) ?_|fail)
   refine Ao (Am (l:=[(6,.c (.row 1 (l.length+1)))]) (b:=[(1,.row 93 6 (rowOf Nb.enc (Bq l i x)))]) (fun n=>if n=1 then 40 else n) ⟨⟨_,rfl,.c (.row rfl (by omega))⟩,trivial⟩
    ⟨⟨_,rfl,.Ji (l.length+1) ?_⟩,trivial⟩ rfl (by simp only[wfL,List.all_cons,List.all_nil,AY];rfl)) (Bn Ab rfl rfl)
   rw[hq1,show min 1 (i+(l.length+1-i)-i)=1 by omega,show min (l.length-i) (i+(l.length+1-i)-(i+1))=l.length-i by omega];exact(JI (y:=(Nb.enc x).map C.d) (Al (enc:=Nb.enc)) (by omega) rfl).trans (Vu l i x).symm
  ·refine Ao (Am (l:=[(6,.c (.row 1 (l.length+1)))]) (b:=[(1,.row 93 6 (rowOf Nb.enc (Bq l i x)))]) (fun n=>if n=1 then 0 else n) ⟨⟨_,rfl,.c (.row rfl rfl)⟩,trivial⟩
    ⟨⟨_,rfl,.Ji (l.length+1) ?_⟩,trivial⟩ rfl (by simp only[wfL,List.all_cons,List.all_nil,AY];rfl)) (Bn Ab rfl rfl)
   rw[show min 1 (l.length+1-i)=1 by omega,show min (l.length+1-i) (l.length+1-(i+1))=l.length-i by omega];exact(JH (y:=(Nb.enc x).map C.d) (Al (enc:=Nb.enc)) (by omega)).trans (Vu l i x).symm
def WH (x:Nb) (e k s:Int):Nb:={x with epoch:=e,rank:=k,slot:=s}
def Qc (t:Int):Nb:=⟨t,0,0,0,0,0⟩
def Qv (l:List Nb) (t:Int):Nb:=if BY l t=true then l.getD (C8 l t) default else Qc t
def Lh (l:List Nb) (t e k s:Int):List Nb:=if BY l t=true then l.set (C8 l t) (WH (l.getD (C8 l t) default) e k s) else Bq l (C8 l t) (WH (Qc t) e k s)
def hearM (l:List Nb) (t e k s:Int):List Nb×Int:=if checkNb l≠0 then([],1) else if DO t e k s=false then([],2) else if s<(Qv l t).slot then([],15) else(Lh l t e k s,0)
theorem Qt (l:List Nb) (t e k s:Int) (h:checkNb l=0) (hr:DO t e k s=true) (hs:¬s<(Qv l t).slot) (hf:BY l t=true):FnS Tryz.prog 131 [AD (nbs l),AI t,AI e,AI k,AI s] [] (.tup [AD (nbs (Lh l t e k s)),AI 0]) []:=by
 have hck:=BM l;rw[h] at hck;have hh:=C6 t e k s;rw[hr] at hh;obtain⟨hlen,hall⟩:=BN h;have hfd:=find_spec l t (by omega);rw[Qv,AgZ hf] at hs;rw[hf] at hfd;have hi:=(CB.1 hf).1;have hn:=(CB.1 hf).2;rw[Lh,AgZ hf];generalize C8 l t=i at *;refine fb Tryz.func131 (by kernel_rfl) rfl Tryz.ntmps131 Tryz.results131 rfl rfl rfl rfl fun E hS=>?_
 refine AJ ?_
 repeat'(first|refine sB ?_|refine Ak rfl (by exact tt0) ?_|(refine gC ?_;first|refine Aa (hck) (gk rfl) rfl rfl rfl (by rfl) rfl (by rfl) rfl ?_|refine Aa (hh) (gk rfl) rfl rfl rfl (by rfl) rfl (by rfl) rfl ?_|refine Aa (hfd) (gk rfl) rfl rfl rfl (by rfl) rfl (by rfl) rfl ?_|refine Aa (DE l (by omega)) (gk rfl) rfl rfl rfl (by(simp only[A0,wfL,AH,List.all_cons,List.all_nil,AY];rfl)) rfl (by exact Bx) rfl ?_)|(refine gI ?_;first|refine Au (gk rfl) rfl rfl rfl rfl rfl (by omega) rfl ?_|refine BG (gk rfl) rfl rfl rfl rfl rfl rfl (by omega) (by omega) rfl ?_)|(refine gS ?_;first|refine By (gk rfl) rfl rfl rfl (by omega) rfl rfl rfl ?_)|(refine gD ?_;first|refine Ah rfl ?_|(refine Ay rfl ?_ ?_<;>intro h<;>have hq:=h<;>(try simp only[hqs] at hq)))|fail)
 all_goals first
  |(exfalso;omega)
  |skip
 refine Mv (Am (l:=[(10,.c (.row 7 (l.set i (WH (l.getD i default) e k s)).length)),(11,AI 0)]) (b:=[(7,.row 93 6 (rowOf Nb.enc (l.set i (WH (l.getD i default) e k s))))]) (fun n=>if n=7 then 58007 else n) ⟨⟨_,rfl,.c (.row rfl (by simp))⟩,⟨_,rfl,.c .d⟩,trivial⟩
   ⟨⟨_,rfl,.Bc (DJ ?_) Ag⟩,trivial⟩ rfl (by simp only[wfL,List.all_cons,List.all_nil,AY];rfl)) ?_
 ·rw[<-hn];rfl
 refine Ao (Bm (l:=[(10,AD (nbs (l.set i (WH (l.getD i default) e k s)))),(11,AI 0)]) (b:=[]) (fun n=>n) [7] hS ?_ ?_ rfl (by rfl)) (CA Ab rfl rfl rfl rfl)
 all_goals repeat'(first|exact tt0|refine⟨⟨_,rfl,?_⟩,?_⟩|exact .c .d|exact .c (.Cd (by(simp;done)) rfl rfl (fun _=>rfl))|fail)
theorem VE (l:List Nb) (t e k s:Int) (h:checkNb l=0) (hr:DO t e k s=true) (hf:BY l t=false):FnS Tryz.prog 131 [AD (nbs l),AI t,AI e,AI k,AI s] [] (.tup [AD (nbs (Lh l t e k s)),AI 0]) []:=by
 have hck:=BM l;rw[h] at hck;have hh:=C6 t e k s;rw[hr] at hh;obtain⟨hlen,hall⟩:=BN h;have hfd:=find_spec l t (by omega);rw[hf] at hfd;have hi:=(M3 h t).1;rw[Lh,AgY (by rw[hf];simp)];generalize C8 l t=i at *;have hins:=Qk l i (WH (Qc t) e k s) (by omega) hi;have hil:(Bq l i (WH (Qc t) e k s)).length=l.length+1:=by simp[Bq];omega
 refine fb Tryz.func131 (by kernel_rfl) rfl Tryz.ntmps131 Tryz.results131 rfl rfl rfl rfl fun E hS=>?_
 refine AJ ?_
 repeat'(first|refine sB ?_|refine Ak rfl (by exact tt0) ?_|(refine gC ?_;first|refine Aa (hck) (gk rfl) rfl rfl rfl (by rfl) rfl (by rfl) rfl ?_|refine Aa (hh) (gk rfl) rfl rfl rfl (by rfl) rfl (by rfl) rfl ?_|refine Aa (hfd) (gk rfl) rfl rfl rfl (by rfl) rfl (by rfl) rfl ?_|refine Aa (DE l (by omega)) (gk rfl) rfl rfl rfl (by(simp only[A0,wfL,AH,List.all_cons,List.all_nil,AY];rfl)) rfl (by exact Bx) rfl ?_|refine Cy [42] (hins) (gk rfl) rfl rfl Ag rfl (by(repeat'(first|exact .nil|refine .cons ?_ ?_|exact .of0 (.c .d)|exact .of0 (.c (Gt (by decide) rfl rfl (by repeat'(first|exact tt0|refine⟨?_,?_⟩|rfl))))))<;>fail) rfl (by exact Ku (fun _=>rfl)) rfl (by(simp only[A0,wfL,AH,List.all_cons,List.all_nil,AY];rfl)) rfl (by exact Bx) rfl ?_)|refine Ap (by kernel_rfl) ?_|(refine gD ?_;first|refine Ai rfl ?_|refine Ah rfl ?_)|fail)
 refine Ao (Bm (l:=[(10,AD (nbs (Bq l i (WH (Qc t) e k s)))),(11,AI 0)]) (b:=[]) (fun n=>n) [43001] hS ?_ ?_ rfl (by rfl)) (CA Ab rfl rfl rfl rfl)
 all_goals repeat'(first|exact tt0|refine⟨⟨_,rfl,?_⟩,?_⟩|exact .c .d|(refine .c (.Cd (by(simp;done)) rfl ?_ (fun _=>rfl));((try dsimp only);first|omega);done)|fail)
theorem VF (l:List Nb) (t e k s:Int) (h:checkNb l≠0):FnS Tryz.prog 131 [AD (nbs l),AI t,AI e,AI k,AI s] [] (.tup [AD (nbs []),AI 1]) []:=by
 have d1:decide (checkNb l≠0)=true:=Agj h;refine fb Tryz.func131 (by kernel_rfl) rfl Tryz.ntmps131 Tryz.results131 rfl rfl rfl rfl fun E hS=>?_
 refine AJ ?_
 repeat'(first|refine sB ?_|refine Ak rfl (by exact tt0) ?_|(refine gC ?_;first|refine Aa (BM l) (gk rfl) rfl rfl rfl (by rfl) rfl (by rfl) rfl ?_)|(refine gD ?_;first|refine Ai rfl ?_|refine At rfl (by assumption) ?_)|fail)
 refine Ao (Am (l:=[(10,AD (nbs [])),(11,AI 1)]) (b:=[]) (fun n=>n) ?_ ?_ rfl (by rfl)) (CA Ab rfl rfl rfl rfl)
 all_goals repeat'(first|exact tt0|refine⟨⟨_,rfl,?_⟩,?_⟩|exact .c .d|exact .c .nil|fail)
theorem Qs (l:List Nb) (t e k s:Int) (h:checkNb l=0) (hr:DO t e k s=false):FnS Tryz.prog 131 [AD (nbs l),AI t,AI e,AI k,AI s] [] (.tup [AD (nbs []),AI 2]) []:=by
 have hck:=BM l;rw[h] at hck;have hh:=C6 t e k s;rw[hr] at hh;refine fb Tryz.func131 (by kernel_rfl) rfl Tryz.ntmps131 Tryz.results131 rfl rfl rfl rfl fun E hS=>?_
 refine AJ ?_
 repeat'(first|refine sB ?_|refine Ak rfl (by exact tt0) ?_|(refine gC ?_;first|refine Aa (hck) (gk rfl) rfl rfl rfl (by rfl) rfl (by rfl) rfl ?_|refine Aa (hh) (gk rfl) rfl rfl rfl (by rfl) rfl (by rfl) rfl ?_)|(refine gD ?_;first|refine Ai rfl ?_|refine Ah rfl ?_)|fail)
 refine Ao (Am (l:=[(10,AD (nbs [])),(11,AI 2)]) (b:=[]) (fun n=>n) ?_ ?_ rfl (by rfl)) (CA Ab rfl rfl rfl rfl)
 all_goals repeat'(first|exact tt0|refine⟨⟨_,rfl,?_⟩,?_⟩|exact .c .d|exact .c .nil|fail)
theorem Tv (l:List Nb) (t e k s:Int) (h:checkNb l=0) (hr:DO t e k s=true) (hs:s<(Qv l t).slot):FnS Tryz.prog 131 [AD (nbs l),AI t,AI e,AI k,AI s] [] (.tup [AD (nbs []),AI 15]) []:=by
 have hck:=BM l;rw[h] at hck;have hh:=C6 t e k s;rw[hr] at hh;obtain⟨hlen,hall⟩:=BN h;have hfd:=find_spec l t (by omega);have hf:BY l t=true:=by
  cases hf:BY l t with
  |true=>rfl
  |false=>
   rw[Qv,hf] at hs;simp only[DO,Agt,C0] at hr;have:s<0:=hs;omega
 rw[Qv,AgZ hf] at hs;rw[hf] at hfd;have hi:=(CB.1 hf).1;have d9:decide (s<(l.getD (C8 l t) default).slot)=true:=Agj hs;generalize C8 l t=i at *;refine fb Tryz.func131 (by kernel_rfl) rfl Tryz.ntmps131 Tryz.results131 rfl rfl rfl rfl fun E hS=>?_
 refine AJ ?_
 repeat'(first|refine sB ?_|refine Ak rfl (by exact tt0) ?_|(refine gC ?_;first|refine Aa (hck) (gk rfl) rfl rfl rfl (by rfl) rfl (by rfl) rfl ?_|refine Aa (hh) (gk rfl) rfl rfl rfl (by rfl) rfl (by rfl) rfl ?_|refine Aa (hfd) (gk rfl) rfl rfl rfl (by rfl) rfl (by rfl) rfl ?_)|(refine gI ?_;first|refine Au (gk rfl) rfl rfl rfl rfl rfl (by omega) rfl ?_)|(refine gD ?_;first|refine Ai rfl ?_|refine Ah rfl ?_|refine At rfl (by assumption) ?_)|fail)
 refine Ao (Am (l:=[(10,AD (nbs [])),(11,AI 15)]) (b:=[]) (fun n=>n) ?_ ?_ rfl (by rfl)) (CA Ab rfl rfl rfl rfl)
 all_goals repeat'(first|exact tt0|refine⟨⟨_,rfl,?_⟩,?_⟩|exact .c .d|exact .c .nil|fail)
theorem VB (l:List Nb) (t e k s:Int):FnS Tryz.prog 131 [AD (nbs l),AI t,AI e,AI k,AI s] [] (.tup [AD (nbs (hearM l t e k s).1),AI (hearM l t e k s).2]) []:=by
 unfold hearM;by_cases h:checkNb l=0
 ·rw[AgY (by simp[h])];cases hr:DO t e k s with
  |false=>
   rw[AgZ rfl];exact Qs l t e k s h hr
  |true=>
   rw[AgY (by simp)];by_cases hs:s<(Qv l t).slot
   ·rw[AgZ hs];exact Tv l t e k s h hr hs
   ·rw[AgY hs];cases hf:BY l t with
    |true=>exact Qt l t e k s h hr hs hf
    |false=>exact VE l t e k s h hr hf
 ·rw[AgZ h];exact VF l t e k s h
def countM (l:List Nb) (t:Int) (b:Bool):List Nb×Int:=if checkNb l≠0 then([],1) else if BY l t=false then([],7) else(l.set (C8 l t) (cnt (l.getD (C8 l t) default) b),0)
theorem Wd (l:List Nb) (t:Int) (b:Bool) (h:checkNb l=0) (hf:BY l t=true):FnS Tryz.prog 132 [AD (nbs l),AI t,AB b] [] (.tup [AD (nbs (l.set (C8 l t) (cnt (l.getD (C8 l t) default) b))),AI 0]) []:=by
 obtain⟨hlen,hall⟩:=BN h;have hck:=BM l;rw[h] at hck;have hfd:=find_spec l t (by omega);rw[hf] at hfd;have hi:C8 l t<l.length:=by
  simp only[BY,Agt,Agl] at hf;exact hf.1
 have hx:=(Cx (hall _ hi)).2;generalize C8 l t=i at *;refine fb Tryz.func132 (by kernel_rfl) rfl Tryz.ntmps132 Tryz.results132 rfl rfl rfl rfl fun E hS=>?_
 refine AJ ?_
 repeat'(first|refine sB ?_|refine Ak rfl (by first|exact tt0|omega) ?_|(refine gC ?_;first|refine Aa (hck) (gk rfl) rfl rfl rfl (by rfl) rfl (by rfl) rfl ?_|refine Aa (hfd) (gk rfl) rfl rfl rfl (by rfl) rfl (by rfl) rfl ?_|refine Aa (DE l (by omega)) (gk rfl) rfl rfl rfl (by(simp only[A0,wfL,AH,List.all_cons,List.all_nil,AY];rfl)) rfl (by exact Bx) rfl ?_)|(refine gI ?_;first|refine BG (gk rfl) rfl rfl rfl rfl rfl rfl (by omega) (by omega) rfl ?_)|(refine gN ?_;first|refine D6 (gk rfl) rfl rfl ?_)|(refine gL ?_;first|refine Co (gk rfl) rfl rfl (by omega) rfl rfl rfl ?_|refine Nz (gk rfl) rfl rfl (by omega) rfl rfl rfl ?_)|(refine gS ?_;first|refine By (gk rfl) rfl rfl rfl (by omega) rfl rfl rfl ?_|refine L9 (gk rfl) rfl rfl rfl (by omega) rfl rfl rfl ?_)|(refine gD ?_;first|refine Ah rfl ?_|(refine Ay rfl ?_ ?_<;>intro h<;>have hq:=h<;>(try simp only[hqs] at hq)))|fail)
 all_goals
  refine Mv (Am (l:=[(6,.c (.row 24007 (l.set i (cnt (l.getD i default) b)).length)),(7,AI 0)]) (b:=[(24007,.row 93 6 (rowOf Nb.enc (l.set i (cnt (l.getD i default) b))))]) (fun n=>n) ⟨⟨_,rfl,.c (.row rfl (by simp))⟩,⟨_,rfl,.c .d⟩,trivial⟩
   ⟨⟨_,rfl,.Bc (DJ ?_) Ag⟩,trivial⟩ rfl (by simp only[wfL,List.all_cons,List.all_nil,AY];rfl)) ?_
  ·generalize l.getD i default=x at *;simp[cnt,Nb.enc,Em, *]
 ·refine Ao (Bm (l:=[(6,AD (nbs (l.set i (cnt (l.getD i default) b)))),(7,AI 0)]) (b:=[]) (fun n=>n) [24007] hS ?_ ?_ rfl (by rfl)) (CA Ab rfl rfl rfl rfl)
  all_goals repeat'(first|exact tt0|refine⟨⟨_,rfl,?_⟩,?_⟩|exact .c .d|exact .c (.Cd (by(simp;done)) rfl rfl (fun _=>rfl))|fail)
 ·refine Ao (Bm (l:=[(6,AD (nbs (l.set i (cnt (l.getD i default) b)))),(7,AI 0)]) (b:=[]) (fun n=>n) [24007] hS ?_ ?_ rfl (by rfl)) (CA Ab rfl rfl rfl rfl)
  all_goals repeat'(first|exact tt0|refine⟨⟨_,rfl,?_⟩,?_⟩|exact .c .d|exact .c (.Cd (by(simp;done)) rfl rfl (fun _=>rfl))|fail)
 ·refine Ao (Bm (l:=[(6,AD (nbs (l.set i (cnt (l.getD i default) b)))),(7,AI 0)]) (b:=[]) (fun n=>n) [24007] hS ?_ ?_ rfl (by rfl)) (CA Ab rfl rfl rfl rfl)
  all_goals repeat'(first|exact tt0|refine⟨⟨_,rfl,?_⟩,?_⟩|exact .c .d|exact .c (.Cd (by(simp;done)) rfl rfl (fun _=>rfl))|fail)
 ·refine Ao (Bm (l:=[(6,AD (nbs (l.set i (cnt (l.getD i default) b)))),(7,AI 0)]) (b:=[]) (fun n=>n) [24007] hS ?_ ?_ rfl (by rfl)) (CA Ab rfl rfl rfl rfl)
  all_goals repeat'(first|exact tt0|refine⟨⟨_,rfl,?_⟩,?_⟩|exact .c .d|exact .c (.Cd (by(simp;done)) rfl rfl (fun _=>rfl))|fail)
theorem TP (l:List Nb) (t:Int) (b:Bool) (h:checkNb l≠0):FnS Tryz.prog 132 [AD (nbs l),AI t,AB b] [] (.tup [AD (nbs []),AI 1]) []:=by
 have d1:decide (checkNb l≠0)=true:=Agj h;refine fb Tryz.func132 (by kernel_rfl) rfl Tryz.ntmps132 Tryz.results132 rfl rfl rfl rfl fun E hS=>?_
 refine AJ ?_
 repeat'(first|refine sB ?_|refine Ak rfl (by exact tt0) ?_|(refine gC ?_;first|refine Aa (BM l) (gk rfl) rfl rfl rfl (by rfl) rfl (by rfl) rfl ?_)|(refine gD ?_;first|refine Ai rfl ?_|refine At rfl (by assumption) ?_)|fail)
 refine Ao (Am (l:=[(6,AD (nbs [])),(7,AI 1)]) (b:=[]) (fun n=>n) ?_ ?_ rfl (by rfl)) (CA Ab rfl rfl rfl rfl)
 all_goals repeat'(first|exact tt0|refine⟨⟨_,rfl,?_⟩,?_⟩|exact .c .d|exact .c .nil|fail)
theorem QK (l:List Nb) (t:Int) (b:Bool) (h:checkNb l=0) (hf:BY l t=false):FnS Tryz.prog 132 [AD (nbs l),AI t,AB b] [] (.tup [AD (nbs []),AI 7]) []:=by
 obtain⟨hlen,_⟩:=BN h;have hck:=BM l;rw[h] at hck;have hfd:=find_spec l t (by omega);rw[hf] at hfd;refine fb Tryz.func132 (by kernel_rfl) rfl Tryz.ntmps132 Tryz.results132 rfl rfl rfl rfl fun E hS=>?_
 refine AJ ?_
 repeat'(first|refine sB ?_|refine Ak rfl (by exact tt0) ?_|(refine gC ?_;first|refine Aa (hck) (gk rfl) rfl rfl rfl (by rfl) rfl (by rfl) rfl ?_|refine Aa (hfd) (gk rfl) rfl rfl rfl (by rfl) rfl (by rfl) rfl ?_)|(refine gD ?_;first|refine Ai rfl ?_|refine Ah rfl ?_)|fail)
 refine Ao (Am (l:=[(6,AD (nbs [])),(7,AI 7)]) (b:=[]) (fun n=>n) ?_ ?_ rfl (by rfl)) (CA Ab rfl rfl rfl rfl)
 all_goals repeat'(first|exact tt0|refine⟨⟨_,rfl,?_⟩,?_⟩|exact .c .d|exact .c .nil|fail)
theorem TO (l:List Nb) (t:Int) (b:Bool):FnS Tryz.prog 132 [AD (nbs l),AI t,AB b] [] (.tup [AD (nbs (countM l t b).1),AI (countM l t b).2]) []:=by
 unfold countM;by_cases h:checkNb l=0
 ·rw[AgY (by simp[h])];cases hf:BY l t with
  |false=>
   rw[AgZ rfl];exact QK l t b h hf
  |true=>
   rw[AgY (by simp)];exact Wd l t b h hf
 ·rw[AgZ h];exact TP l t b h
def forgetM (l:List Nb) (slot age:Int):List Nb:=if checkNb l=0/\0<=slot/\0<=age then kept l slot age else l
theorem TB (l:List Nb) (slot age:Int) (h:checkNb l=0/\0<=slot/\0<=age):FnS Tryz.prog 134 [AD (nbs l),AI slot,AI age] [] (AD (nbs (kept l slot age))) []:=by
 obtain⟨hlen,_⟩:=BN h.1;have hck:=BM l;rw[h.1] at hck;have h2:=h.2.1;have h3:=h.2.2;have d1:decide (slot<0)=false:=by simp;omega
 have d2:decide (age<0)=false:=by simp;omega
 refine fb Tryz.func134 (by kernel_rfl) rfl Tryz.ntmps134 Tryz.results134 rfl rfl rfl rfl fun E hS=>?_
 refine AJ ?_
 repeat'(first|refine sB ?_|refine Ak rfl (by exact tt0) ?_|(refine gC ?_;first|refine Aa (hck) (gk rfl) rfl rfl rfl (by rfl) rfl (by rfl) rfl ?_|refine Aa (DE l (by omega)) (gk rfl) rfl rfl rfl (by(simp only[A0,wfL,AH,List.all_cons,List.all_nil,AY];rfl)) rfl (by exact Bx) rfl ?_|refine Cy [4,5] (Yd l (Ad4 slot age) (by omega)) (gk rfl) rfl rfl Ag rfl (by(repeat'(first|exact .nil|refine .cons ?_ ?_|exact(Qz rfl rfl)))<;>fail) rfl (by exact Ku (fun _=>rfl)) rfl (by(simp only[A0,wfL,AH,List.all_cons,List.all_nil,AY];rfl)) rfl (by exact Bx) rfl ?_)|refine Az rfl (by assumption) ?_|(refine gD ?_;first|refine Ah rfl ?_|refine At rfl (by assumption) ?_)|fail)
 refine Ao (Bm (l:=[(6,AD (nbs (kept l slot age)))]) (b:=[]) (fun n=>n) [22000] hS ?_ ?_ rfl (by rfl)) (P1 Ab rfl rfl)
 all_goals repeat'(first|exact tt0|refine⟨⟨_,rfl,?_⟩,?_⟩|exact .c (.Cd (by(simp;done)) rfl rfl (fun _=>rfl))|fail)
theorem Qy (l:List Nb) (slot age:Int):FnS Tryz.prog 134 [AD (nbs l),AI slot,AI age] [] (AD (nbs (forgetM l slot age))) []:=by
 unfold forgetM;by_cases h:checkNb l=0/\0<=slot/\0<=age
 ·rw[AgZ h];exact TB l slot age h
 ·rw[AgY h];exact TD l slot age (by
   by_cases h1:checkNb l=0
   ·exact .inr (by by_cases h2:0<=slot
                   ·exact .inr (by by_cases h3:0<=age
                                   ·exact absurd ⟨h1,h2,h3⟩ h
                                   ·omega)
                   ·exact .inl (by omega))
   ·exact .inl h1)
end Go.Proofs.P
end
section
namespace Go.Proofs
open Go Go.Sx Go.Proofs.T Go.Proofs.Q
set_option maxRecDepth 4000
attribute [local irreducible] VR VC thenQ blockQ retL
theorem H8 (n m:Int):FnS Tryz.prog 233 [AI n,AI m] [] (AB (decide (0<=n/\n<=m))) []:=by
 refine fb Tryz.func233 (by kernel_rfl) rfl Tryz.ntmps233 Tryz.results233 rfl rfl rfl rfl fun E hS=>?_
 repeat'(first|refine sB ?_|refine Ak rfl (by exact tt0) ?_|(refine Ax rfl ?_ ?_<;>intro h<;>have hq:=h<;>(try simp only[hqs] at hq))|fail)
 ·refine Aw Ab rfl ?_;exact decide_eq_decide.2 (by omega)
 ·refine Aw Ab rfl ?_;exact Agk (by omega)
theorem Tr (n:Int):FnS Tryz.prog 282 [AI n] [] (AB (decide (-32768<=n/\n<=32767))) []:=by
 refine fb Tryz.func282 (by kernel_rfl) rfl Tryz.ntmps282 Tryz.results282 rfl rfl rfl rfl fun E hS=>?_
 repeat'(first|refine sB ?_|refine Ak rfl (by exact tt0) ?_|(refine Ax rfl ?_ ?_<;>intro h<;>have hq:=h<;>(try simp only[hqs] at hq))|fail)
 ·refine Aw Ab rfl ?_;exact decide_eq_decide.2 (by omega)
 ·refine Aw Ab rfl ?_;exact Agk (by omega)
theorem IN (f:Fr):FnS Tryz.prog 281 [frA f] [] (AB (decide (0<=f.target/\f.target<=31/\f.target≠f.source))) []:=by
 refine fb Tryz.func281 (by kernel_rfl) rfl Tryz.ntmps281 Tryz.results281 rfl rfl rfl rfl fun E hS=>?_
 repeat'(first|refine sB ?_|refine Ak rfl (by exact tt0) ?_|(refine gC ?_;first|refine Aa (H8 _ _) (gk rfl) rfl rfl rfl (by rfl) rfl (by rfl) rfl ?_)|(refine Ax rfl ?_ ?_<;>intro h<;>have hq:=h<;>(try simp only[hqs] at hq))|fail)
 ·refine Aw Ab rfl ?_;exact decide_eq_decide.2 (by omega)
 ·refine Aw Ab rfl ?_;exact Agk (by omega)
def Du (f:Fr):Fr×Bool:=
 if f.kind=1 then({f with Cb:=0,number:=0,data:=⟨#[]⟩},decide ((0<=f.target/\f.target<=31/\f.target≠f.source)/\(0<=f.Cb/\f.Cb<=255)/\0<=f.number/\f.number<=65535))
 else if f.kind=2 then({f with err:=0},decide ((0<=f.target/\f.target<=31/\f.target≠f.source)/\-32768<=f.err/\f.err<=32767))
 else if f.kind=3 then({f with slot:=0,rank:=0,epoch:=0,data:=⟨#[]⟩},decide (f.target=-1/\(0<=f.slot/\f.slot<=109951162)/\(0<=f.rank/\f.rank<=65535)/\0<=f.epoch/\f.epoch<=65535))
 else if f.kind=4 then({f with data:=⟨#[]⟩},decide (f.target=-1\/(0<=f.target/\f.target<=31/\f.target≠f.source)))
 else(f,false)
set_option maxHeartbeats 1000000 in
theorem QC (f:Fr):FnS Tryz.prog 232 [frA f] [] (.tup [frA (Du f).1,AB (Du f).2]) []:=by
 refine fb Tryz.func232 (by kernel_rfl) rfl Tryz.ntmps232 Tryz.results232 rfl rfl rfl rfl fun E hS=>?_
 by_cases h1:f.kind=1
 ·have d1:decide (f.kind=1)=true:=Agj h1;rw[Du,AgZ h1]
  repeat'(first|refine sC ?_|refine Ak rfl (by exact tt0) ?_|(refine gC ?_;first|refine Aa (H8 _ _) (gk rfl) rfl rfl rfl (by rfl) rfl (by rfl) rfl ?_|refine Aa (IN f) (gk rfl) rfl rfl rfl (by rfl) rfl (by rfl) rfl ?_)|(refine Ax rfl ?_ ?_<;>intro h<;>have hq:=h<;>(try simp only[hqs] at hq))|(refine gD ?_;first|refine Ai rfl ?_|refine At rfl (by assumption) ?_)|fail)
  all_goals
   refine AL Ab rfl rfl rfl rfl rfl rfl (congrArg D.bool ?_)
   first|exact decide_eq_decide.2 (by omega)|exact Agk (by omega)|exact Agj (by omega)
 have d1:decide (f.kind=1)=false:=Agk h1;by_cases h2:f.kind=2
 ·have d2:decide (f.kind=2)=true:=Agj h2;rw[Du,AgY h1,AgZ h2]
  repeat'(first|refine sC ?_|refine Ak rfl (by exact tt0) ?_|(refine gC ?_;first|refine Aa (Tr _) (gk rfl) rfl rfl rfl (by rfl) rfl (by rfl) rfl ?_|refine Aa (IN f) (gk rfl) rfl rfl rfl (by rfl) rfl (by rfl) rfl ?_)|(refine Ax rfl ?_ ?_<;>intro h<;>have hq:=h<;>(try simp only[hqs] at hq))|(refine gD ?_;first|refine Ai rfl ?_|refine Ah rfl ?_|refine At rfl (by assumption) ?_)|fail)
  all_goals
   refine AL Ab rfl rfl rfl rfl rfl rfl (congrArg D.bool ?_)
   first|exact decide_eq_decide.2 (by omega)|exact Agk (by omega)|exact Agj (by omega)
 have d2:decide (f.kind=2)=false:=Agk h2;by_cases h3:f.kind=3
 ·have d3:decide (f.kind=3)=true:=Agj h3;rw[Du,AgY h1,AgY h2,AgZ h3]
  repeat'(first|refine sC ?_|refine Ak rfl (by exact tt0) ?_|(refine gC ?_;first|refine Aa (H8 _ _) (gk rfl) rfl rfl rfl (by rfl) rfl (by rfl) rfl ?_)|(refine Ax rfl ?_ ?_<;>intro h<;>have hq:=h<;>(try simp only[hqs] at hq))|(refine gD ?_;first|refine Ai rfl ?_|refine Ah rfl ?_|refine At rfl (by assumption) ?_)|fail)
  all_goals
   refine AL Ab rfl rfl rfl rfl rfl rfl (congrArg D.bool ?_)
   first|exact decide_eq_decide.2 (by omega)|exact Agk (by omega)|exact Agj (by omega)
 have d3:decide (f.kind=3)=false:=Agk h3;by_cases h4:f.kind=4
 ·have d4:decide (f.kind=4)=true:=Agj h4;rw[Du,AgY h1,AgY h2,AgY h3,AgZ h4]
  repeat'(first|refine sC ?_|refine Ak rfl (by exact tt0) ?_|(refine gC ?_;first|refine Aa (IN f) (gk rfl) rfl rfl rfl (by rfl) rfl (by rfl) rfl ?_)|(refine Ax rfl ?_ ?_<;>intro h<;>have hq:=h<;>(try simp only[hqs] at hq))|(refine gD ?_;first|refine Ai rfl ?_|refine Ah rfl ?_|refine At rfl (by assumption) ?_)|fail)
  all_goals
   refine AL Ab rfl rfl rfl rfl rfl rfl (congrArg D.bool ?_)
   first|exact decide_eq_decide.2 (by omega)|exact Agk (by omega)|exact Agj (by omega)
 have d4:decide (f.kind=4)=false:=Agk h4;rw[Du,AgY h1,AgY h2,AgY h3,AgY h4]
 repeat'(first|refine sC ?_|refine Ak rfl (by exact tt0) ?_|(refine gD ?_;first|refine Ah rfl ?_|refine At rfl (by assumption) ?_)|fail)
 exact AL Ab rfl rfl rfl rfl rfl rfl rfl
def Sz (f:Fr):Fr:=⟨f.kind,f.source,f.target,f.list,f.seq,0,0,0,0,0,0,⟨#[]⟩⟩
def inS (f:Fr):Bool:=decide ((0<=f.source/\f.source<=31)/\(0<=f.list/\f.list<=255)/\0<=f.seq/\f.seq<=255)
def Ib (f:Fr):Int:=if(Du f).2=true/\(Du f).1=Sz f/\inS f=true then 0 else 1
set_option maxHeartbeats 1000000 in
theorem KO (f:Fr):FnS Tryz.prog 168 [frA f] [] (AI (Ib f)) []:=by
 refine fb Tryz.func168 (by kernel_rfl) rfl Tryz.ntmps168 Tryz.results168 rfl rfl rfl rfl fun E hS=>?_
 repeat'(first|refine sB ?_|refine Ak rfl (by exact tt0) ?_|(refine gC ?_;first|refine Aa (QC f) (gk rfl) rfl rfl rfl (by rfl) rfl (by rfl) rfl ?_|refine Aa (H8 _ _) (gk rfl) rfl rfl rfl (by rfl) rfl (by rfl) rfl ?_)|(refine gB ?_;first|refine PB (gk rfl) rfl rfl rfl rfl rfl rfl rfl ?_)|(refine Ax rfl ?_ ?_<;>intro h<;>have hq:=h<;>(try simp only[hqs] at hq))|(refine gD ?_;first|refine Ai rfl ?_|(refine Ay rfl ?_ ?_<;>intro h<;>have hq:=h<;>(try simp only[hqs] at hq)))|fail)
 ·exact AG Ab rfl (AgY fun hh=>by rw[hq] at hh;cases hh.1)
 ·exact AG Ab rfl (AgY fun hh=>hq (AeV hh.2.1))
 ·exact AG Ab rfl (AgY fun hh=>by have:=AgI hh.2.2;omega)
 ·exact AG Ab rfl (AgY fun hh=>by have:=AgI hh.2.2;omega)
 ·exact AG Ab rfl (AgY fun hh=>by have:=AgI hh.2.2;omega)
 ·exact AG Ab rfl (AgZ ⟨by assumption,AeW (x:=(Du f).1) (y:=Sz f) (by assumption),Agj ⟨by assumption,by assumption,by assumption⟩⟩)
def Ua (f:Fr) (node:Int):Bool:=decide (Ib f=0)&&decide (0<=node/\node<=31/\(f.target=node\/f.target=-1/\f.source≠node))
theorem FU (f:Fr) (node:Int):FnS Tryz.prog 245 [frA f,AI node] [] (AB (Ua f node)) []:=by
 refine fb Tryz.func245 (by kernel_rfl) rfl Tryz.ntmps245 Tryz.results245 rfl rfl rfl rfl fun E hS=>?_
 repeat'(first|refine sB ?_|refine Ak rfl (by exact tt0) ?_|(refine gC ?_;first|refine Aa (KO f) (gk rfl) rfl rfl rfl (by rfl) rfl (by rfl) rfl ?_|refine Aa (H8 _ _) (gk rfl) rfl rfl rfl (by rfl) rfl (by rfl) rfl ?_)|(refine Ax rfl ?_ ?_<;>intro h<;>have hq:=h<;>(try simp only[hqs] at hq))|fail)
 all_goals
  refine Aw Ab rfl ?_;unfold Ua
  first
   |(rw[Agk (p:=Ib f=0) (by assumption)];rfl)
   |(rw[Agj (p:=Ib f=0) (by assumption)]
     first|exact Agj (by omega)|exact Agk (by omega)|exact decide_eq_decide.2 (by omega))
abbrev AdW (f:Fr):Prop:=0<=f.target/\f.target<=31/\f.target≠f.source
abbrev inP (f:Fr):Prop:=(0<=f.source/\f.source<=31)/\(0<=f.list/\f.list<=255)/\0<=f.seq/\f.seq<=255
abbrev okP (f:Fr):Prop:=inP f/\((f.kind=1/\AdW f/\(0<=f.Cb/\f.Cb<=255)/\(0<=f.number/\f.number<=65535)/\f.err=0/\f.slot=0/\f.rank=0/\f.epoch=0)
 \/ (f.kind=2/\AdW f/\(-32768<=f.err/\f.err<=32767)/\f.Cb=0/\f.number=0/\f.slot=0/\f.rank=0/\f.epoch=0/\f.data=⟨#[]⟩)
 \/ (f.kind=3/\f.target=-1/\(0<=f.slot/\f.slot<=109951162)/\(0<=f.rank/\f.rank<=65535)/\(0<=f.epoch/\f.epoch<=65535)/\f.Cb=0/\f.number=0/\f.err=0)
 \/ (f.kind=4/\(f.target=-1\/AdW f)/\f.Cb=0/\f.number=0/\f.err=0/\f.slot=0/\f.rank=0/\f.epoch=0))
theorem IU (f:Fr):Ib f=0↔okP f:=by
 have hd:∀{p:Prop} [Decidable p],(if p then(0:Int) else 1)=0↔p:=fun{p} _=>by split<;>simp_all
 unfold Ib;rw[hd];unfold okP inP AdW inS;obtain⟨kind,source,target,list,seq,Cb,number,err,slot,rank,epoch,data⟩:=f;by_cases h1:kind=1
 ·subst h1;simp only[Du,Sz,AgZ,Fr.mk.injEq,Agl,true_and,and_true];constructor
  ·rintro⟨h,h2,h3⟩;exact⟨h3,.inl ⟨h.1,h.2.1,h.2.2,by omega,by omega,by omega,by omega⟩⟩
  ·rintro⟨h3,h|h|h|h⟩
   ·exact⟨⟨h.1,h.2.1,h.2.2.1⟩,by omega,h3⟩
   ·exact absurd h.1 (by decide)
   ·exact absurd h.1 (by decide)
   ·exact absurd h.1 (by decide)
 by_cases h2:kind=2
 ·subst h2;simp only[Du,Sz,AgZ,AgY (show ¬(2:Int)=1 by decide),Fr.mk.injEq,Agl,true_and,and_true];constructor
  ·rintro⟨h,h2,h3⟩;exact⟨h3,.inr (.inl ⟨h.1,h.2,h2.1,h2.2.1,h2.2.2.1,h2.2.2.2.1,h2.2.2.2.2.1,h2.2.2.2.2.2⟩)⟩
  ·rintro⟨h3,h|h|h|h⟩
   ·exact absurd h.1 (by decide)
   ·exact⟨⟨h.1,h.2.1⟩,h.2.2,h3⟩
   ·exact absurd h.1 (by decide)
   ·exact absurd h.1 (by decide)
 by_cases h3:kind=3
 ·subst h3;simp only[Du,Sz,AgZ,AgY (show ¬(3:Int)=1 by decide),AgY (show ¬(3:Int)=2 by decide),Fr.mk.injEq,Agl,true_and,and_true];constructor
  ·rintro⟨h,h2,h3⟩;exact⟨h3,.inr (.inr (.inl ⟨h.1,h.2.1,h.2.2.1,h.2.2.2,by omega,by omega,by omega⟩))⟩
  ·rintro⟨h3,h|h|h|h⟩
   ·exact absurd h.1 (by decide)
   ·exact absurd h.1 (by decide)
   ·exact⟨⟨h.1,h.2.1,h.2.2.1,h.2.2.2.1⟩,by omega,h3⟩
   ·exact absurd h.1 (by decide)
 by_cases h4:kind=4
 ·subst h4;simp only[Du,Sz,AgZ,AgY (show ¬(4:Int)=1 by decide),AgY (show ¬(4:Int)=2 by decide),AgY (show ¬(4:Int)=3 by decide),Fr.mk.injEq,Agl,true_and,and_true];constructor
  ·rintro⟨h,h2,h3⟩;exact⟨h3,.inr (.inr (.inr ⟨h,by omega,by omega,by omega,by omega,by omega,by omega⟩))⟩
  ·rintro⟨h3,h|h|h|h⟩
   ·exact absurd h.1 (by decide)
   ·exact absurd h.1 (by decide)
   ·exact absurd h.1 (by decide)
   ·exact⟨h.1,by omega,h3⟩
 ·simp[Du,AgY h1,AgY h2,AgY h3,AgY h4];intros;omega
end Go.Proofs
end
section
namespace Go.Proofs.R
open Go Go.Sx Go.Proofs.P
set_option maxRecDepth 4000
attribute [local irreducible] VR VC thenQ blockQ retL
theorem P2 {P:Program} {σ:St} {t u v q nm:Nat} {T:TypeId} {ti:TyI} {cs cs':List C} {x x' y y' z z':D} {e:Exit} (he:e=.normal\/e=.ret) [ht:AM P T ti] (hx:σ (.s t)=some (.v (.c (.ptr nm 0)))) (hb:σ (.b nm)=some (.k (.box cs'))) (hagg:ti.isAgg=true)
  (hl:(cs'.take ti.size).length=ti.size) (hu:σ (.s u)=some (.v (AD x'))) (hv:σ (.s v)=some (.v (AD y'))) (hq:σ (.s q)=some (.v (AD z'))) (h:cs=cs'.take ti.size) (h2:x=x') (h3:y=y') (h4:z=z'):
  Hr P [.cell t T,.tmp u,.tmp v,.tmp q] (.tup [.agg cs,AD x,AD y,AD z]) [] e σ:=
 ⟨he,[.agg ((cs'.drop 0).take ti.size),AD x',AD y',AD z'],.agg hx hb hagg hl (.tmp rfl hu (.tmp rfl hv (.tmp rfl hq .nil))),by rw[h,h2,h3,h4];rfl,fun p hp=>by cases hp⟩
def startM (i:Int):Rk×Int:=if Ei i=false then(rkZ,2) else if i=0 then(⟨0,1,-1,0,0,65535⟩,0) else(⟨i,0,-1,65535,65535,65535⟩,0)
theorem GB (i:Int):FnS Tryz.prog 41 [AI i] [] (.tup [rkA (startM i).1,AI (startM i).2]) []:=by
 have hn:=P.Fj i;unfold startM;cases hb:Ei i with
 |false=>
  rw[hb] at hn;refine fb Tryz.func41 (by kernel_rfl) rfl Tryz.ntmps41 Tryz.results41 rfl rfl rfl rfl fun E hS=>?_
  repeat'(first|refine sB ?_|refine Ak rfl (by exact tt0) ?_|(refine gC ?_;first|refine Aa (hn) (gk rfl) rfl rfl rfl (by rfl) rfl (by exact Av) rfl ?_)|(refine gD ?_;first|refine Ai rfl ?_)|fail)
  all_goals first|exact Ee Ab rfl rfl rfl rfl rfl rfl rfl
 |true=>
  rw[hb] at hn;rw[AgY (by simp)];by_cases h0:i=0
  ·subst h0;refine fb Tryz.func41 (by kernel_rfl) rfl Tryz.ntmps41 Tryz.results41 rfl rfl rfl rfl fun E hS=>?_
   repeat'(first|refine sB ?_|refine Ak rfl (by exact tt0) ?_|(refine gC ?_;first|refine Aa (hn) (gk rfl) rfl rfl rfl (by rfl) rfl (by exact Av) rfl ?_)|(refine gD ?_;first|refine Ai rfl ?_|refine Ah rfl ?_)|fail)
   exact Ee Ab rfl rfl rfl rfl rfl rfl rfl
  ·rw[AgY h0];have d1:decide (i=0)=false:=Agk h0;refine fb Tryz.func41 (by kernel_rfl) rfl Tryz.ntmps41 Tryz.results41 rfl rfl rfl rfl fun E hS=>?_
   repeat'(first|refine sB ?_|refine Ak rfl (by exact tt0) ?_|(refine gC ?_;first|refine Aa (hn) (gk rfl) rfl rfl rfl (by rfl) rfl (by exact Av) rfl ?_)|(refine gD ?_;first|refine Ah rfl ?_|refine At rfl (by assumption) ?_)|fail)
   exact Ee Ab rfl rfl rfl rfl rfl rfl rfl
def advM (r:Rk):Rk×Int×Int×Int:=if rkErr r≠0 then(rkZ,0,0,1) else if r.rank=65535 then(rkZ,0,0,12) else({r with least:=min r.least r.rank},r.epoch,r.rank,0)
theorem WG (r:Rk):FnS Tryz.prog 124 [rkA r] [] (.tup [rkA (advM r).1,AI (advM r).2.1,AI (advM r).2.2.1,AI (advM r).2.2.2]) []:=by
 refine fb Tryz.func124 (by kernel_rfl) rfl Tryz.ntmps124 Tryz.results124 rfl rfl rfl rfl fun E hS=>?_
 repeat'(first|refine sB ?_|refine Ak rfl (by exact tt0) ?_|(refine gC ?_;first|refine Aa (Dq r) (gk rfl) rfl rfl rfl (by rfl) rfl (by exact Av) rfl ?_)|refine Ap (by kernel_rfl) ?_|(refine gD ?_;first|(refine Ay rfl ?_ ?_<;>intro h<;>have hq:=h<;>(try simp only[hqs] at hq)))|fail)
 all_goals refine P2 Ab rfl rfl rfl rfl rfl rfl rfl ?_ ?_ ?_ ?_
 all_goals unfold advM
 all_goals repeat' split
 all_goals first|rfl|(exfalso;simp_all;done)|(exfalso;omega)|trace_state
end Go.Proofs.R
end
section
namespace Go.Proofs
open Go Go.Sx Go.Proofs.T Go.Proofs.Q
set_option maxRecDepth 4000
attribute [local irreducible] VR VC thenQ blockQ retL
theorem S7:FnS Tryz.prog 226 [] [] (.c (.ptr 100 0)) [(100,.box [.row 101 0,.d (.int .i64 0),.d (.int .i64 0)]),(101,.row 5 1 (rowOf He []))]:=by
 refine fb Tryz.func226 (by kernel_rfl) rfl Tryz.ntmps226 Tryz.results226 rfl rfl rfl rfl fun E hS=>?_
 refine AJ ?_
 repeat'(first|refine sB ?_|refine Ak rfl (by exact tt0) ?_|fail)
 refine Mv (MP (bx:=2) (nm:=101) (T:=5) (sz:=1) (j:=0) rfl rfl rfl) ?_;refine Ao (Am (l:=[(0,.c (.ptr 100 0))]) (b:=[(100,.box [.row 101 0,.d (.int .i64 0),.d (.int .i64 0)]),(101,.row 5 1 (rowOf He []))]) (fun n=>if n=100 then 2 else n) ?_ ?_ rfl (by rfl)) (DG Ab (.tmp rfl rfl .nil) rfl (by repeat'(first|exact tt0|refine⟨rfl,?_⟩)))
 all_goals repeat'(first|exact tt0|refine⟨⟨_,rfl,?_⟩,?_⟩|exact .c (.ptr rfl)|exact .Bc rfl Ag|refine .box ?_|exact .nil|refine .cons ?_ ?_|exact .d|exact .row rfl rfl|fail)
theorem Aal {C:List Bool} {n w k:Nat} (hn:n<2^63) (hk:k<w):IntKind.u8.wrap (IntKind.u8.wrap (WS .and .u64 ((n:Int)/2^((w:Int)-1-(k:Int)).toNat) 1)*2^(7-(C.length:Int) % 8).toNat)=((QU (decide (n/2^(w-1-k) % 2=1))*2^(7-C.length % 8):Nat):Int):=by
 have e1:((w:Int)-1-(k:Int)).toNat=w-1-k:=by omega
 have e2:(7-(C.length:Int) % 8).toNat=7-C.length % 8:=by omega
 have e3:(n:Int)/2^(w-1-k)=((n/2^(w-1-k):Nat):Int):=by simp
 have hlt:n/2^(w-1-k)<2^64:=by
  have:=Nat.div_le_self n (2^(w-1-k));omega
 have hm:C.length % 8<8:=Nat.mod_lt _ (by decide);have hp:2^(7-C.length % 8)<=128:=Aha (Nat.pow_le_pow_right (by decide) (show 7-C.length % 8<=7 by omega)) (by decide);rw[e1,e2,e3,Wy hlt,Yl];have h2:n/2^(w-1-k) % 2<2:=Nat.mod_lt _ (by decide);generalize n/2^(w-1-k) % 2=b at *;rw[show IntKind.u8.wrap (b:Int)=b from wrap_u8 (by omega)];have e4:(b:Int)*2^(7-C.length % 8)=((b*2^(7-C.length % 8):Nat):Int):=by simp
 rw[e4];have h5:b*2^(7-C.length % 8)<=1*2^(7-C.length % 8):=Ahb _ (by omega);exact wrap_u8 (by omega)
set_option maxHeartbeats 2000000 in
theorem Kf (B:List Bool) (w n:Nat) (hw:w<=63) (hn:n<2^63) (hB:B.length<=4000):FnW Tryz.prog 280 [.c (.ptr 100 0),AI w,AD (.int .u64 n)] [(100,.box [.row 101 (BH B).length,.d (.int .i64 B.length),.d (.int .i64 0)]),(101,.row 5 1 (rowOf He (BH B)))] [100] (.tup []) [(100,.box [.row 102 (BH (B++CQ w n)).length,.d (.int .i64 (B++CQ w n).length),.d (.int .i64 0)]),(102,.row 5 1 (rowOf He (BH (B++CQ w n))))]:=by
 intro r;simp only[Cg,List.map_cons,List.map_nil,List.cons_append,List.nil_append,Nat.reduceAdd];refine FnS.Bw (enters_of Tryz.func280 (by kernel_rfl) rfl) Tryz.func280 rfl Tryz.ntmps280 Tryz.results280 rfl (by first|rfl|(simp only[A0,wfL,AH,wfs,Ae,Ad];rfl)) rfl fun E=>?_
 refine AJ ?_
 repeat'(first|refine sC ?_|refine Ak rfl (by first|exact tt0|omega) ?_|fail)
 refine AK (ι:=Nat) (fun k=>AS [(0,.c (.ptr 100 0)),(1,AI w),(2,AD (.int .u64 n)),(6,AI ((w:Int)-1-(k:Int)))] [(9100,.pin 100 (r 100)),(100,.box [.row 101 (BH (B++Ie w n k)).length,.d (.int .i64 (B++Ie w n k).length),.d (.int .i64 0)]),(101,.row 5 1 (rowOf He (BH (B++Ie w n k))))]) (fun k=>k<=w) (fun k=>w-k) 0 (Ag1 _) ?_ ?_
 ·rw[show Ie w n 0=[] from rfl,AgF,show(w:Int)-1-((0:Nat):Int)=(w:Int)-1 by omega];refine Am (fun n=>n) ?_ ?_ rfl (by(simp only[wfL,wfs,Ae,Ad];rfl))
  all_goals repeat'(first|exact tt0|refine⟨⟨_,rfl,?_⟩,?_⟩|exact .c .d|exact .c (.ptr rfl)|exact .pin rfl|exact .Bc rfl Ag|refine .box ?_|exact .nil|refine .cons ?_ ?_|exact .d|exact .row rfl rfl|fail)
 ·intro k hk;have hlen:(B++Ie w n k).length=B.length+k:=by rw[Agn,Wt]
  rcases Ag2 k w with hlt|hge
  ·have dlt:decide (0<=(w:Int)-1-(k:Int))=true:=Agj (by omega);have es:=TX w n k;have ea:B++Ie w n (k+1)=(B++Ie w n k)++[decide (n/2^(w-1-k) % 2=1)]:=by rw[es,AgE]
   generalize B++Ie w n k=C at hlen ea ⊢;have hpl:=Fl C;have hol:=N6 C;have hval:=Aal (C:=C) (n:=n) (w:=w) (k:=k) hn hlt;have hfin:=Tc C (decide (n/2^(w-1-k) % 2=1));rw[<-hval,show C.length/8=((C.length:Int)/8).toNat by omega] at hfin;by_cases h8:C.length % 8=0
   ·have d8:decide ((C.length:Int) % 8=0)=true:=Agj (by omega);have eo:IL C=BH C++[0]:=AgZ h8
    repeat'(first|refine sR ?_|refine Ak rfl (by first|exact tt0|omega) ?_|(refine gA ?_;first|refine Be (gk rfl) rfl rfl rfl (by exact Al.symm) (by exact .row rfl (by rfl)) rfl rfl rfl (by(try dsimp only);omega) rfl rfl ?_)|(refine gN ?_;first|refine Aj (gk rfl) rfl rfl ?_)|refine sq 5 rfl ?_|(refine gD ?_;first|refine Ai rfl ?_|refine At rfl (by assumption) ?_)|refine B0 ?_|fail)
    refine VC.le (σ':=AS [(0,.c (.ptr 100 0)),(1,AI w),(2,AD (.int .u64 n)),(6,AI ((w:Int)-1-(k:Int)))] [(9100,.pin 100 (r 100)),(100,.box [.row 101 (IL C).length,.d (.int .i64 C.length),.d (.int .i64 0)]),(101,.row 5 1 (rowOf He (IL C)))]) ?_ ?_
    ·rw[eo];refine Am (fun n=>if n=101 then 25 else n) ?_ ?_ rfl (by(simp only[wfL,wfs,Ae,Ad];rfl))
     all_goals repeat'(first|exact tt0|refine⟨⟨_,rfl,?_⟩,?_⟩|exact .c .d|exact .c (.ptr rfl)|exact .pin rfl|(refine .Bc ?_ Ag;rw[AZ];rfl)|refine .box ?_|exact .nil|refine .cons ?_ ?_|exact .d|(refine .row rfl ?_;((try dsimp only);first|(simp only[lns]<;>omega));done)|fail)
    repeat'(first|refine sB ?_|(show VR _ _ _ (⟨_,.binOp .shl _ _ _ _,_,_,_,_⟩ :: _) _ _ _;first|refine Mb (gk rfl) rfl rfl (by omega) (by(show _<=8;omega)) rfl rfl ?_)|(show VR _ _ _ (⟨_,.binOp .shr _ _ _ _,_,_,_,_⟩ :: _) _ _ _;first|refine Ix (gk rfl) rfl rfl (by omega) (by(show _<=64;omega)) rfl ?_)|refine Ak rfl (by first|exact tt0|omega) ?_|(refine gI ?_;first|refine FB (gk rfl) rfl rfl rfl rfl rfl (by omega) (by exact Al.symm) rfl ?_)|(refine gN ?_;first|refine Aj (gk rfl) rfl rfl ?_)|(refine gL ?_;first|refine Co (gk rfl) rfl rfl (by omega) rfl rfl rfl ?_)|(refine gS ?_;first|refine By (gk rfl) rfl rfl rfl (by omega) rfl rfl rfl ?_)|(refine gV ?_;first|refine C3 (gk rfl) rfl ⟨_,rfl⟩ rfl rfl ?_)|(refine gB ?_;first|refine PH (gk rfl) rfl rfl rfl rfl rfl ?_)|refine Ap (by kernel_rfl) ?_|fail)
    refine⟨k+1,by omega,by omega,?_⟩;rw[ea,<-hfin,show(w:Int)-1-((k+1:Nat):Int)=(w:Int)-1-(k:Int)-1 by omega,show(((C++[decide (n/2^(w-1-k) % 2=1)]).length:Nat):Int)=(C.length:Int)+1 by simp];refine Am (fun n=>n) ?_ ?_ rfl (by(simp only[wfL,wfs,Ae,Ad];rfl))
    all_goals repeat'(first|exact tt0|refine⟨⟨_,rfl,?_⟩,?_⟩|exact .c .d|exact .c (.ptr rfl)|exact .pin rfl|exact .Bc (DJ rfl) Ag|refine .box ?_|exact .nil|refine .cons ?_ ?_|exact .d|(refine .row rfl ?_;((try dsimp only);first|(simp only[lns]<;>omega));done)|fail)
   ·have d8:decide ((C.length:Int) % 8=0)=false:=Agk (by omega);have eo:IL C=BH C:=AgY h8
    repeat'(first|refine sR ?_|refine Ak rfl (by first|exact tt0|omega) ?_|(refine gN ?_;first|refine Aj (gk rfl) rfl rfl ?_)|refine sq 5 rfl ?_|(refine gD ?_;first|refine Ai rfl ?_|refine Ah rfl ?_|refine At rfl (by assumption) ?_)|refine B0 ?_|fail)
    refine VC.le (σ':=AS [(0,.c (.ptr 100 0)),(1,AI w),(2,AD (.int .u64 n)),(6,AI ((w:Int)-1-(k:Int)))] [(9100,.pin 100 (r 100)),(100,.box [.row 101 (IL C).length,.d (.int .i64 C.length),.d (.int .i64 0)]),(101,.row 5 1 (rowOf He (IL C)))]) ?_ ?_
    ·rw[eo];refine Am (fun n=>n) ?_ ?_ rfl (by(simp only[wfL,wfs,Ae,Ad];rfl))
     all_goals repeat'(first|exact tt0|refine⟨⟨_,rfl,?_⟩,?_⟩|exact .c .d|exact .c (.ptr rfl)|exact .pin rfl|exact .Bc rfl Ag|refine .box ?_|exact .nil|refine .cons ?_ ?_|exact .d|exact .row rfl rfl|fail)
    repeat'(first|refine sB ?_|(show VR _ _ _ (⟨_,.binOp .shl _ _ _ _,_,_,_,_⟩ :: _) _ _ _;first|refine Mb (gk rfl) rfl rfl (by omega) (by(show _<=8;omega)) rfl rfl ?_)|(show VR _ _ _ (⟨_,.binOp .shr _ _ _ _,_,_,_,_⟩ :: _) _ _ _;first|refine Ix (gk rfl) rfl rfl (by omega) (by(show _<=64;omega)) rfl ?_)|refine Ak rfl (by first|exact tt0|omega) ?_|(refine gI ?_;first|refine FB (gk rfl) rfl rfl rfl rfl rfl (by omega) (by exact Al.symm) rfl ?_)|(refine gN ?_;first|refine Aj (gk rfl) rfl rfl ?_)|(refine gL ?_;first|refine Co (gk rfl) rfl rfl (by omega) rfl rfl rfl ?_)|(refine gS ?_;first|refine By (gk rfl) rfl rfl rfl (by omega) rfl rfl rfl ?_)|(refine gV ?_;first|refine C3 (gk rfl) rfl ⟨_,rfl⟩ rfl rfl ?_)|(refine gB ?_;first|refine PH (gk rfl) rfl rfl rfl rfl rfl ?_)|refine Ap (by kernel_rfl) ?_|fail)
    refine⟨k+1,by omega,by omega,?_⟩;rw[ea,<-hfin,show(w:Int)-1-((k+1:Nat):Int)=(w:Int)-1-(k:Int)-1 by omega,show(((C++[decide (n/2^(w-1-k) % 2=1)]).length:Nat):Int)=(C.length:Int)+1 by simp];refine Am (fun n=>n) ?_ ?_ rfl (by(simp only[wfL,wfs,Ae,Ad];rfl))
    all_goals repeat'(first|exact tt0|refine⟨⟨_,rfl,?_⟩,?_⟩|exact .c .d|exact .c (.ptr rfl)|exact .pin rfl|exact .Bc (DJ rfl) Ag|refine .box ?_|exact .nil|refine .cons ?_ ?_|exact .d|(refine .row rfl ?_;((try dsimp only);first|(simp only[lns]<;>omega));done)|fail)
  ·have dlt:decide (0<=(w:Int)-1-(k:Int))=false:=Agk (by omega);have hk':k=w:=by omega
   subst hk';rw[show Ie k n k=CQ k n from rfl]
   repeat'(first|refine sB ?_|refine Ak rfl (by exact tt0) ?_|(refine gD ?_;first|refine Ah rfl ?_|refine At rfl (by assumption) ?_)|fail)
   refine Ao (Am (l:=[]) (b:=[(9100,.pin 100 (r 100)),(100,.box [.row 102 (BH (B++CQ k n)).length,.d (.int .i64 (B++CQ k n).length),.d (.int .i64 0)]),(102,.row 5 1 (rowOf He (BH (B++CQ k n))))]) (fun n=>if n=102 then 101 else n) ?_ ?_ rfl (by(simp only[wfL,wfs,Ae,Ad];rfl))) (DG BQ .nil rfl (by repeat'(first|exact tt0|refine⟨rfl,?_⟩)))
   all_goals repeat'(first|exact tt0|refine⟨⟨_,rfl,?_⟩,?_⟩|exact .pin rfl|exact .Bc rfl Ag|refine .box ?_|exact .nil|refine .cons ?_ ?_|exact .d|exact .row rfl rfl|fail)
def Jk:ByteArray:=⟨((List.replicate 1 0++List.replicate 1 1++List.replicate 2 2++List.replicate 4 3++List.replicate 8 4++List.replicate 16 5++List.replicate 32 6++List.replicate 64 7++List.replicate 128 8).map UInt8.ofNat).toArray⟩
def Pu (n:Nat):Nat×Nat:=if 65536<=n then(16,n/65536) else(0,n)
def T9 (p:Nat×Nat):Nat×Nat:=if 256<=p.2 then(p.1+8,p.2/256) else p
def Vk (n:Nat):Int:=((T9 (Pu n)).1:Int)+bAt Jk (T9 (Pu n)).2
theorem AaD:∀j:Fin 9,∀x:Fin 256,x.val<2^j.val->bAt Jk x.val<=j.val:=by decide +kernel
theorem HB (s:ByteArray) (i:Nat):0<=bAt s i/\bAt s i<256:=by
 unfold bAt;have:=(s.data.toList.getD i 0).toNat_lt;omega
theorem MO {L:ByteArray} {a:Int} {m n:Nat} {p:Nat×Nat} (hL:L=Jk) (hp:T9 (Pu n)=p) (ha:a=(p.1:Int)) (hm:m=p.2) (h24:p.1<=24):IntKind.i64.wrap (a+IntKind.i64.wrap (bAt L m))=Vk n:=by
 subst hL hm ha;have:=HB Jk p.2;rw[show IntKind.i64.wrap (bAt Jk p.2)=bAt Jk p.2 from wrap_i64 (by omega),wrap_i64 (by omega)];unfold Vk;rw[hp]
theorem AaC {n w:Nat} (hn:n<2^w) (hw:w<=32):0<=Vk n/\Vk n<=w:=by
 have hb:=fun m=>HB Jk m
 have key:∀m j:Nat,m<256->j<=8->m<2^j->bAt Jk m<=j:=fun m j hm hj h=>AaD ⟨j,by omega⟩ ⟨m,hm⟩ h
 have hdiv:∀c m e:Nat,m<2^e->c<=e->m/2^c<2^(e-c):=fun c m e h hc=>by
  rw[Nat.div_lt_iff_lt_mul (Nat.pow_pos (by decide)),<-Nat.pow_add,Nat.sub_add_cancel hc];exact h
 have hle:∀c m e:Nat,2^c<=m->m<2^e->c<e:=fun c m e h1 h2=>(Nat.pow_lt_pow_iff_right (by decide)).1 (Nat.lt_of_le_of_lt h1 h2)
 have hmono:∀{m e f:Nat},m<2^e->e<=f->m<2^f:=fun h hef=>AgK h (Nat.pow_le_pow_right (by decide) hef)
 unfold Vk;refine⟨by have:=hb (T9 (Pu n)).2;omega,?_⟩;by_cases h1:65536<=n
 ·have hA:Pu n=(16,n/65536):=AgZ h1;have hw16:16<w:=hle 16 n w h1 hn;have hn1:n/65536<2^(w-16):=hdiv 16 n w hn (by omega);by_cases h2:256<=n/65536
  ·have hB:T9 (Pu n)=(24,n/65536/256):=by rw[hA];exact AgZ h2
   have hw8:8<w-16:=hle 8 _ _ h2 hn1;have hn2:n/65536/256<2^(w-16-8):=hdiv 8 _ _ hn1 (by omega);have h256:n/65536/256<256:=hmono hn2 (show w-16-8<=8 by omega);rw[hB];have:=key _ _ h256 (by omega) hn2;show((24:Nat):Int)+bAt Jk (n/65536/256)<=w;omega
  ·have hB:T9 (Pu n)=(16,n/65536):=by rw[hA];exact AgY h2
   rw[hB];show((16:Nat):Int)+bAt Jk (n/65536)<=w;rcases Ag2 8 (w-16) with h3|h3
   ·have:=key _ 8 (by omega) (Ag0 _) (show n/65536<2^8 by omega);omega
   ·have:=key _ _ (by omega) h3 hn1;omega
 ·have hA:Pu n=(0,n):=AgY h1;by_cases h2:256<=n
  ·have hB:T9 (Pu n)=(8,n/256):=by rw[hA];exact AgZ h2
   have hw8:8<w:=hle 8 _ _ h2 hn;have hn2:n/256<2^(w-8):=hdiv 8 _ _ hn (by omega);rw[hB];show((8:Nat):Int)+bAt Jk (n/256)<=w;rcases Ag2 8 (w-8) with h3|h3
   ·have:=key _ 8 (by omega) (Ag0 _) (show n/256<2^8 by omega);omega
   ·have:=key _ _ (by omega) h3 hn2;omega
  ·have hB:T9 (Pu n)=(0,n):=by rw[hA];exact AgY h2
   rw[hB];show((0:Nat):Int)+bAt Jk n<=w;rcases Ag2 8 w with h3|h3
   ·have:=key _ 8 (by omega) (Ag0 _) (show n<2^8 by omega);omega
   ·have:=key _ _ (by omega) h3 hn;omega
set_option maxHeartbeats 1000000 in
theorem Tn (n:Nat) (hn:n<2^32):FnS Tryz.prog 305 [AD (.int .u64 n)] [] (AI (Vk n)) []:=by
 have d0:decide ((4294967296:Int)<=(n:Int))=false:=Agk (by omega);refine fb Tryz.func305 (by kernel_rfl) rfl Tryz.ntmps305 Tryz.results305 rfl rfl rfl rfl fun E hS=>?_
 by_cases h1:65536<=n
 ·have d1:decide ((65536:Int)<=(n:Int))=true:=Agj (by omega);have f1:(n:Int)/2^Int.toNat 16=((n/65536:Nat):Int):=by
   rw[show(2:Int)^Int.toNat 16=65536 from rfl];omega
  have hA:Pu n=(16,n/65536):=AgZ h1;by_cases h2:256<=n/65536
  ·have d2:decide (256<=(n:Int)/2^Int.toNat 16)=true:=Agj (by omega);have hB:T9 (Pu n)=(24,n/65536/256):=by rw[hA];exact AgZ h2
   have f2:(n:Int)/2^Int.toNat 16/2^Int.toNat 8=((n/65536/256:Nat):Int):=by
    rw[f1,show(2:Int)^Int.toNat 8=256 from rfl];omega
   repeat'(first|refine sB ?_|(refine gX ?_;first|refine Dn (m:=n/65536/256) (gk rfl) rfl rfl rfl (by omega) (show _<(256:Int) from by omega) (by omega) rfl ?_)|(show VR _ _ _ (⟨_,.binOp .shr _ _ _ _,_,_,_,_⟩ :: _) _ _ _;first|refine Ix (gk rfl) rfl rfl (by omega) (by decide) rfl ?_)|refine Ak rfl (by first|exact tt0|omega) ?_|(refine gV ?_;first|refine A4 (gk rfl) rfl ⟨_,rfl⟩ rfl (by exact wrap_u8 (by omega)) rfl ?_|refine C3 (gk rfl) rfl ⟨_,rfl⟩ rfl rfl ?_)|(refine gB ?_;first|refine IY rfl rfl rfl rfl rfl ?_)|(refine gD ?_;first|refine Ai rfl ?_|refine Ah rfl ?_|refine At rfl (by assumption) ?_)|fail)
   refine AG Ab rfl (MO (p:=_) ?_ hB (by rfl) rfl (Nat.le_of_ble_eq_true rfl)).symm
   kernel_rfl
  ·have d2:decide (256<=(n:Int)/2^Int.toNat 16)=false:=Agk (by omega);have hB:T9 (Pu n)=(16,n/65536):=by rw[hA];exact AgY h2
   repeat'(first|refine sB ?_|(refine gX ?_;first|refine Dn (m:=n/65536) (gk rfl) rfl rfl rfl (by omega) (show _<(256:Int) from by omega) (by omega) rfl ?_)|(show VR _ _ _ (⟨_,.binOp .shr _ _ _ _,_,_,_,_⟩ :: _) _ _ _;first|refine Ix (gk rfl) rfl rfl (by omega) (by decide) rfl ?_)|refine Ak rfl (by first|exact tt0|omega) ?_|(refine gV ?_;first|refine A4 (gk rfl) rfl ⟨_,rfl⟩ rfl (by exact wrap_u8 (by omega)) rfl ?_|refine C3 (gk rfl) rfl ⟨_,rfl⟩ rfl rfl ?_)|(refine gB ?_;first|refine IY rfl rfl rfl rfl rfl ?_)|(refine gD ?_;first|refine Ai rfl ?_|refine Ah rfl ?_|refine At rfl (by assumption) ?_)|fail)
   refine AG Ab rfl (MO (p:=_) ?_ hB (by rfl) rfl (Nat.le_of_ble_eq_true rfl)).symm
   kernel_rfl
 ·have d1:decide ((65536:Int)<=(n:Int))=false:=Agk (by omega);have hA:Pu n=(0,n):=AgY h1;by_cases h2:256<=n
  ·have d2:decide (256<=(n:Int))=true:=Agj (by omega);have hB:T9 (Pu n)=(8,n/256):=by rw[hA];exact AgZ h2
   have f2:(n:Int)/2^Int.toNat 8=((n/256:Nat):Int):=by
    rw[show(2:Int)^Int.toNat 8=256 from rfl];omega
   repeat'(first|refine sB ?_|(refine gX ?_;first|refine Dn (m:=n/256) (gk rfl) rfl rfl rfl (by omega) (show _<(256:Int) from by omega) (by omega) rfl ?_)|(show VR _ _ _ (⟨_,.binOp .shr _ _ _ _,_,_,_,_⟩ :: _) _ _ _;first|refine Ix (gk rfl) rfl rfl (by omega) (by decide) rfl ?_)|refine Ak rfl (by first|exact tt0|omega) ?_|(refine gV ?_;first|refine A4 (gk rfl) rfl ⟨_,rfl⟩ rfl (by exact wrap_u8 (by omega)) rfl ?_|refine C3 (gk rfl) rfl ⟨_,rfl⟩ rfl rfl ?_)|(refine gB ?_;first|refine IY rfl rfl rfl rfl rfl ?_)|(refine gD ?_;first|refine Ai rfl ?_|refine Ah rfl ?_|refine At rfl (by assumption) ?_)|fail)
   refine AG Ab rfl (MO (p:=_) ?_ hB (by rfl) rfl (Nat.le_of_ble_eq_true rfl)).symm
   kernel_rfl
  ·have d2:decide (256<=(n:Int))=false:=Agk (by omega);have hB:T9 (Pu n)=(0,n):=by rw[hA];exact AgY h2
   repeat'(first|refine sB ?_|(refine gX ?_;first|refine Dn (m:=n) (gk rfl) rfl rfl rfl (by omega) (show _<(256:Int) from by omega) (by omega) rfl ?_)|refine Ak rfl (by exact tt0) ?_|(refine gV ?_;first|refine A4 (gk rfl) rfl ⟨_,rfl⟩ rfl (by exact wrap_u8 (by omega)) rfl ?_|refine C3 (gk rfl) rfl ⟨_,rfl⟩ rfl rfl ?_)|(refine gB ?_;first|refine IY rfl rfl rfl rfl rfl ?_)|(refine gD ?_;first|refine Ah rfl ?_|refine At rfl (by assumption) ?_)|fail)
   refine AG Ab rfl (MO (p:=_) ?_ hB (by rfl) rfl (Nat.le_of_ble_eq_true rfl)).symm
   kernel_rfl
theorem RO (n:Nat) (hn:n<2^32):FnS Tryz.prog 277 [AD (.int .u64 n)] [] (AI (Vk n)) []:=by
 refine fb Tryz.func277 (by kernel_rfl) rfl Tryz.ntmps277 Tryz.results277 rfl rfl rfl rfl fun E hS=>?_
 repeat'(first|refine sB ?_|refine Ak rfl (by exact tt0) ?_|(refine gC ?_;first|refine Aa (Tn n hn) (gk rfl) rfl rfl rfl (by rfl) rfl (by exact Av) rfl ?_)|(refine gD ?_;first|refine Ah rfl ?_)|fail)
 exact AG Ab rfl rfl
theorem AeO:Vk 8=4:=by decide +kernel
theorem P4 (m:Nat) (hm:m<2^32):FnS Tryz.prog 279 [AI m] [] (AI (max 1 (Vk m))) []:=by
 have h:=RO m hm;refine fb Tryz.func279 (by kernel_rfl) rfl Tryz.ntmps279 Tryz.results279 rfl rfl rfl rfl fun E hS=>?_
 repeat'(first|refine sB ?_|refine Ak rfl (by exact tt0) ?_|(refine gC ?_;first|refine Aa (h) (gk rfl) rfl rfl rfl (by rfl) rfl (by exact Av) rfl ?_)|(refine gV ?_;first|refine A4 (gk rfl) rfl ⟨_,rfl⟩ rfl (by exact wrap_u64 (by omega)) rfl ?_)|(refine gD ?_;first|refine Ah rfl ?_)|fail)
 exact AG Ab rfl rfl
theorem Tm (n:Int):FnS Tryz.prog 278 [AI n] [] (AB (decide (1<=n/\n<=4095))) []:=by
 refine fb Tryz.func278 (by kernel_rfl) rfl Tryz.ntmps278 Tryz.results278 rfl rfl rfl rfl fun E hS=>?_
 repeat'(first|refine sB ?_|refine Ak rfl (by exact tt0) ?_|(refine Ax rfl ?_ ?_<;>intro h<;>have hq:=h<;>(try simp only[hqs] at hq))|fail)
 ·refine Aw Ab rfl ?_;exact decide_eq_decide.2 (by omega)
 ·refine Aw Ab rfl ?_;exact Agk (by omega)
end Go.Proofs
end
