/-
  What functions of the program hand back, and plain laws on that. No condition.
-/
import Derived.Test.YtdlcbilgemnomaaGreatSxMab
set_option linter.unusedSimpArgs false
set_option linter.unusedVariables false
section
namespace Go.Proofs.P
open Go Go.Sx
set_option maxRecDepth 4000
attribute [local irreducible] VR VC thenQ blockQ
structure Rk where
 node:Int
 epoch:Int
 parent:Int
 heard:Int
 rank:Int
 least:Int
 deriving DecidableEq,Inhabited
def Rk.cs (r:Rk):List C:=[.d (.int .i64 r.node),.d (.int .i64 r.epoch),.d (.int .i64 r.parent),.d (.int .i64 r.heard),.d (.int .i64 r.rank),.d (.int .i64 r.least)]
abbrev rkA (r:Rk):AV:=.agg r.cs
theorem Dn (n lo hi:Int):FnS Tryz.prog 108 [AI n,AI lo,AI hi] [] (AB (inR n lo hi)) []:=by
 refine fb Tryz.func108 (by kernel_rfl) rfl Tryz.ntmps108 Tryz.results108 rfl rfl rfl rfl fun E hS=>?_
 repeat'(first|refine sB ?_|refine Aj rfl (by exact tt0) ?_|(refine Ax rfl ?_ ?_<;>intro h<;>have hq:=h<;>(try simp only[hqs] at hq))|fail)
 all_goals refine As Ab rfl ?_
 all_goals simp_all [inR]<;>omega
def D7 (n:Int):Bool:=inR n 0 31
theorem Ff (n:Int):FnS Tryz.prog 65 [AI n] [] (AB (D7 n)) []:=by
 refine fb Tryz.func65 (by kernel_rfl) rfl Tryz.ntmps65 Tryz.results65 rfl rfl rfl rfl fun E hS=>?_
 repeat'(first|refine sB ?_|refine Aj rfl (by exact tt0) ?_|(refine gC ?_;first|refine AN (Dn _ _ _) (gk rfl) rfl rfl rfl rfl rfl rfl ?_)|fail)
 all_goals exact As Ab rfl rfl
def Tf (e r:Int):Bool:=inR e 1 65535&&inR r 0 65534
theorem MP (e r:Int):FnS Tryz.prog 254 [AI e,AI r] [] (AB (Tf e r)) []:=by
 refine fb Tryz.func254 (by kernel_rfl) rfl Tryz.ntmps254 Tryz.results254 rfl rfl rfl rfl fun E hS=>?_
 repeat'(first|refine sB ?_|refine Aj rfl (by exact tt0) ?_|(refine gC ?_;first|refine AN (Dn _ _ _) (gk rfl) rfl rfl rfl rfl rfl rfl ?_)|(refine Ax rfl ?_ ?_<;>intro h<;>have hq:=h<;>(try simp only[hqs] at hq))|fail)
 all_goals refine As Ab rfl ?_
 all_goals simp_all [Tf]
def FU (r:Rk):Bool:=inR r.least 1 65535||(decide (r.node=0)&&decide (r.least=0))
def EX (r:Rk):Bool:=
 if r.node=0 then decide (1<=r.epoch)&&decide (r.parent=-1)&&decide (r.heard=0)&&decide (r.rank=0)&&(decide (r.least=0)||decide (r.least=65535))
 else if r.parent=-1 then decide (r.heard=65535)&&decide (r.rank=65535)&&(decide (0<r.epoch)||decide (r.least=65535))
 else D7 r.parent&&decide (r.parent≠r.node)&&decide (1<=r.epoch)&&decide (0<=r.heard)&&decide (r.heard<r.rank)&&decide (r.heard<r.least)&&decide (r.rank<65535)
def rkErr (r:Rk):Int:=if D7 r.node&&inR r.epoch 0 65535&&FU r then(if EX r then 0 else 1) else 2
theorem Dg (r:Rk):FnS Tryz.prog 72 [rkA r] [] (AI (rkErr r)) []:=by
 refine fb Tryz.func72 (by kernel_rfl) rfl Tryz.ntmps72 Tryz.results72 rfl rfl rfl rfl fun E hS=>?_
 refine JI (AS [(1,.c (.ptr 1 0)),(2,AI 0)] [(1,.box r.cs)]) ?_ ?_
 ·repeat'(first|refine sR ?_|refine Aj rfl (by exact tt0) ?_|fail)
  show Le _ _ _;exact B4 ⟨rfl,rfl,trivial⟩ ⟨rfl,trivial⟩ rfl
 refine JI (AS [(1,.c (.ptr 1 0)),(2,AI 0),(3,AB (FU r))] [(1,.box r.cs)]) ?_ ?_
 ·repeat'(first|refine sR ?_|refine Aj rfl (by exact tt0) ?_|(refine gC ?_;first|refine AN (Dn _ _ _) (gk rfl) rfl rfl rfl rfl rfl rfl ?_)|(refine Ax rfl ?_ ?_<;>intro h<;>have hq:=h<;>(try simp only[hqs] at hq))|fail)
  all_goals show Le _ _ _
  all_goals refine B4 ⟨rfl,rfl,Aca ?_ rfl,trivial⟩ ⟨rfl,trivial⟩ rfl
  all_goals simp_all [FU]
 repeat'(first|refine sR ?_|refine Aj rfl (by exact tt0) ?_|(refine gC ?_;first|refine AN (Dn _ _ _) (gk rfl) rfl rfl rfl rfl rfl rfl ?_|refine AN (Ff _) (gk rfl) rfl rfl rfl rfl rfl rfl ?_)|(refine Ax rfl ?_ ?_<;>intro h<;>have hq:=h<;>(try simp only[hqs] at hq))|(show VC _ (.seq (.region _ _ _) _) _ _;refine BB ?_)|(show VC _ (.seq (.seq (.region _ _ _) (.cond _ _ _)) _) _ _;refine BB ?_)|(refine gD ?_;first|refine Ah rfl ?_|(refine Ay rfl ?_ ?_<;>intro h<;>have hq:=h<;>(try simp only[hqs] at hq)))|fail)
 all_goals first
  |(refine AG Ab rfl ?_;simp_all [rkErr])|refine JI (AS [(1,.c (.ptr 1 0)),(2,AI 0),(4,AB (EX r))] [(1,.box r.cs)]) ?_ ?_
 ·repeat'(first|refine sC ?_|refine Aj rfl (by exact tt0) ?_|(refine gC ?_;first|refine AN (Ff _) (gk rfl) rfl rfl rfl rfl rfl rfl ?_)|(refine Ax rfl ?_ ?_<;>intro h<;>have hq:=h<;>(try simp only[hqs] at hq))|(refine gD ?_;first|(refine Ay rfl ?_ ?_<;>intro h<;>have hq:=h<;>(try simp only[hqs] at hq)))|fail)
  all_goals show Le _ _ _
  all_goals refine B4 ⟨rfl,rfl,Aca ?_ rfl,trivial⟩ ⟨rfl,trivial⟩ rfl
  all_goals simp_all [EX]<;>omega
 ·repeat'(first|refine sB ?_|refine Aj rfl (by exact tt0) ?_|(refine gD ?_;first|(refine Ay rfl ?_ ?_<;>intro h<;>have hq:=h<;>(try simp only[hqs] at hq)))|fail)
  all_goals refine AG Ab rfl ?_
  all_goals simp_all [rkErr]
def KZ (r:Rk) (e k:Int):Bool:=decide (rkErr r=0)&&decide (r.node≠0)&&Tf e k&&(decide (r.epoch<e)||(decide (e=r.epoch)&&decide (k<r.least)))
theorem Om (r:Rk) (e k:Int):FnS Tryz.prog 256 [rkA r,AI e,AI k] [] (AB (KZ r e k)) []:=by
 refine fb Tryz.func256 (by kernel_rfl) rfl Tryz.ntmps256 Tryz.results256 rfl rfl rfl rfl fun E hS=>?_
 repeat'(first|refine sB ?_|refine Aj rfl (by exact tt0) ?_|(refine gC ?_;first|refine AN (Dg r) (gk rfl) rfl rfl rfl rfl rfl rfl ?_|refine AN (MP _ _) (gk rfl) rfl rfl rfl rfl rfl rfl ?_)|(refine Ax rfl ?_ ?_<;>intro h<;>have hq:=h<;>(try simp only[hqs] at hq))|(refine gD ?_;first|refine Ah rfl ?_|(refine Ay rfl ?_ ?_<;>intro h<;>have hq:=h<;>(try simp only[hqs] at hq)))|fail)
 all_goals try refine As Ab rfl ?_
 all_goals simp_all [KZ]
def BN (r:Rk) (e:Int):Rk:=if r.epoch<e then{r with epoch:=e,least:=65535} else r
theorem Jh {P:Program} {σ:St} {t nm:Nat} {T:TypeId} {ti:TyI} {cs cs':List C} {e:Exit} (he:e=.normal\/e=.ret) [ht:AM P T ti] (hx:σ (.s t)=some (.v (.c (.ptr nm 0)))) (hb:σ (.b nm)=some (.k (.box cs'))) (hagg:ti.isAgg=true)
  (hl:(cs'.take ti.size).length=ti.size) (h:cs=cs'.take ti.size):Hm P [.cell t T] (.agg cs) [] e σ:=
 ⟨he,[.agg ((cs'.drop 0).take ti.size)],.agg hx hb hagg hl .nil,by rw[h];rfl,fun p hp=>by cases hp⟩
theorem LG (r:Rk) (e:Int):FnS Tryz.prog 255 [rkA r,AI e] [] (rkA (BN r e)) []:=by
 refine fb Tryz.func255 (by kernel_rfl) rfl Tryz.ntmps255 Tryz.results255 rfl rfl rfl rfl fun E hS=>?_
 repeat'(first|refine sB ?_|refine Aj rfl (by exact tt0) ?_|(refine gD ?_;first|(refine Ay rfl ?_ ?_<;>intro h<;>have hq:=h<;>(try simp only[hqs] at hq)))|fail)
 all_goals refine Jh Ab rfl rfl rfl rfl ?_
 all_goals unfold BN
 all_goals split
 all_goals first|rfl|(exfalso;omega)
def Hp (r:Rk):Rk:=if rkErr r=0/\r.node≠0 then{r with parent:=-1,heard:=65535,rank:=65535} else r
theorem NT (r:Rk):FnS Tryz.prog 187 [rkA r] [] (rkA (Hp r)) []:=by
 refine fb Tryz.func187 (by kernel_rfl) rfl Tryz.ntmps187 Tryz.results187 rfl rfl rfl rfl fun E hS=>?_
 repeat'(first|refine sB ?_|refine Aj rfl (by exact tt0) ?_|(refine gC ?_;first|refine AN (Dg r) (gk rfl) rfl rfl rfl rfl rfl rfl ?_)|(refine Ax rfl ?_ ?_<;>intro h<;>have hq:=h<;>(try simp only[hqs] at hq))|(refine gD ?_;first|refine Ag rfl ?_|(refine Ay rfl ?_ ?_<;>intro h<;>have hq:=h<;>(try simp only[hqs] at hq)))|fail)
 all_goals refine Jh Ab rfl rfl rfl rfl ?_
 all_goals unfold Hp
 all_goals split
 all_goals first|rfl|(exfalso;simp_all;done)
def rkZ:Rk:=⟨0,0,0,0,0,0⟩
theorem D5 {P:Program} {σ:St} {t u nm:Nat} {T:TypeId} {ti:TyI} {cs cs':List C} {x x':D} {e:Exit} (he:e=.normal\/e=.ret) [ht:AM P T ti] (hx:σ (.s t)=some (.v (.c (.ptr nm 0)))) (hb:σ (.b nm)=some (.k (.box cs'))) (hagg:ti.isAgg=true)
  (hl:(cs'.take ti.size).length=ti.size) (hu:σ (.s u)=some (.v (AD x'))) (h:cs=cs'.take ti.size) (h2:x=x'):Hm P [.cell t T,.tmp u] (.tup [.agg cs,AD x]) [] e σ:=
 ⟨he,[.agg ((cs'.drop 0).take ti.size),AD x'],.agg hx hb hagg hl (.tmp rfl hu .nil),by rw[h,h2];rfl,fun p hp=>by cases hp⟩
def Hc (r:Rk) (fr e k c:Int):Rk×Int:=
 if rkErr r≠0 then(rkZ,1)
 else if(D7 fr&&decide (fr≠r.node)&&Tf e k&&inR c 1 1023)=false then(rkZ,2)
 else if KZ r e k=false then(rkZ,12)
 else if 65535<=k+c then(rkZ,21)
 else({BN r e with parent:=fr,heard:=k,rank:=k+c},0)
theorem E2 (e k:Int):(Tf e k=true)=((1<=e/\e<=65535)/\0<=k/\k<=65534):=by simp[Tf,inR]
theorem Rr (e k:Int):(Tf e k=false)=¬((1<=e/\e<=65535)/\0<=k/\k<=65534):=by rw[<-E2];simp
theorem LI (r:Rk) (fr e k c:Int):FnS Tryz.prog 190 [rkA r,AI fr,AI e,AI k,AI c] [] (.tup [rkA (Hc r fr e k c).1,AI (Hc r fr e k c).2]) []:=by
 refine fb Tryz.func190 (by kernel_rfl) rfl Tryz.ntmps190 Tryz.results190 rfl rfl rfl rfl fun E hS=>?_
 repeat'(first|refine sC ?_|refine Aj rfl (by first|exact tt0|omega) ?_|(refine gC ?_;first|refine AN (Dg r) (gk rfl) rfl rfl rfl rfl rfl rfl ?_|refine AN (Ff _) (gk rfl) rfl rfl rfl rfl rfl rfl ?_|refine AN (MP _ _) (gk rfl) rfl rfl rfl rfl rfl rfl ?_|refine AN (Dn _ _ _) (gk rfl) rfl rfl rfl rfl rfl rfl ?_|refine AN (Om r _ _) (gk rfl) rfl rfl rfl rfl rfl rfl ?_|refine AN (LG r _) (gk rfl) rfl rfl rfl rfl rfl rfl ?_)|(refine Ax rfl ?_ ?_<;>intro h<;>have hq:=h<;>(try simp only[Aef,Aeg,Int.not_lt,Int.not_le,ne_eq,Aeo,Bool.not_eq_true',Bool.not_eq_false',C0,Sw,E2,Rr] at hq))|(refine gD ?_;first|refine Ah rfl ?_|(refine Ay rfl ?_ ?_<;>intro h<;>have hq:=h<;>(try simp only[Aef,Aeg,Int.not_lt,Int.not_le,ne_eq,Aeo,Bool.not_eq_true',Bool.not_eq_false',C0,Sw,E2,Rr] at hq)))|fail)
 all_goals try refine D5 Ab rfl rfl rfl rfl rfl ?_ ?_
 all_goals try refine D5 Ab rfl rfl rfl rfl rfl ?_ ?_
 all_goals unfold Hc
 all_goals repeat' split
 all_goals first|rfl|(exfalso;simp_all;done)|(exfalso;omega)|trace_state
def update' (r:Rk) (e k c:Int):Rk×Int:=
 if rkErr r≠0 then(rkZ,1)
 else if(Tf e k&&inR c 1 1023)=false then(rkZ,2)
 else if r.parent=-1 then(rkZ,12)
 else if e<r.epoch then(r,0)
 else if(Hc r r.parent e k c).2=0 then((Hc r r.parent e k c).1,0)
 else(Hp (BN r e),0)
theorem Pc (r:Rk) (e k c:Int):FnS Tryz.prog 185 [rkA r,AI e,AI k,AI c] [] (.tup [rkA (update' r e k c).1,AI (update' r e k c).2]) []:=by
 refine fb Tryz.func185 (by kernel_rfl) rfl Tryz.ntmps185 Tryz.results185 rfl rfl rfl rfl fun E hS=>?_
 repeat'(first|refine sC ?_|refine Aj rfl (by exact tt0) ?_|(refine gC ?_;first|refine AN (Dg r) (gk rfl) rfl rfl rfl rfl rfl rfl ?_|refine AN (MP _ _) (gk rfl) rfl rfl rfl rfl rfl rfl ?_|refine AN (Dn _ _ _) (gk rfl) rfl rfl rfl rfl rfl rfl ?_|refine AN (LI r _ _ _ _) (gk rfl) rfl rfl rfl rfl rfl rfl ?_|refine AN (LG r _) (gk rfl) rfl rfl rfl rfl rfl rfl ?_|refine AN (NT (BN r e)) (gk rfl) rfl rfl rfl rfl rfl rfl ?_)|(refine Ax rfl ?_ ?_<;>intro h<;>have hq:=h<;>(try simp only[Aef,Aeg,Int.not_lt,Int.not_le,ne_eq,Aeo,Bool.not_eq_true',Bool.not_eq_false',C0,Sw,E2,Rr] at hq))|(refine gD ?_;first|refine Ah rfl ?_|(refine Ay rfl ?_ ?_<;>intro h<;>have hq:=h<;>(try simp only[Aef,Aeg,Int.not_lt,Int.not_le,ne_eq,Aeo,Bool.not_eq_true',Bool.not_eq_false',C0,Sw,E2,Rr] at hq)))|fail)
 all_goals try refine D5 Ab rfl rfl rfl rfl rfl ?_ ?_
 all_goals unfold update'
 all_goals repeat' split
 all_goals first|rfl|(exfalso;simp_all;done)|(exfalso;omega)|trace_state
def I8 (a k:Int):Int:=
 if a<0\/k<0\/a<k then 0 else if a<4 then 256 else if k=0 then 1023 else min ((128*a+k-1)/k) 1023
theorem Ot (a k:Int) (h:a<=2147483648):FnS Tryz.prog 186 [.agg [.d (.int .i64 a),.d (.int .i64 k)]] [] (AI (I8 a k)) []:=by
 refine fb Tryz.func186 (by kernel_rfl) rfl Tryz.ntmps186 Tryz.results186 rfl rfl rfl rfl fun E hS=>?_
 repeat'(first|refine sC ?_|refine Aj rfl (by first|exact tt0|omega) ?_|(refine Ax rfl ?_ ?_<;>intro h<;>have hq:=h<;>(try simp only[hqs] at hq))|(refine gD ?_;first|refine Ah rfl ?_|(refine Ay rfl ?_ ?_<;>intro h<;>have hq:=h<;>(try simp only[hqs] at hq)))|fail)
 all_goals refine AG Ab rfl ?_
 all_goals unfold I8
 all_goals repeat' split
 all_goals first|rfl|(exfalso;simp_all;done)|(exfalso;omega)|trace_state
def Ha (a b:Int):Int:=if a<b then -1 else if b<a then 1 else 0
theorem GJ (a:Int):FnS Tryz.prog 209 [AI a] [] (AB false) []:=by
 refine fb Tryz.func209 (by kernel_rfl) rfl Tryz.ntmps209 Tryz.results209 rfl rfl rfl rfl fun E hS=>?_
 repeat'(first|refine sB ?_|refine Aj rfl (by exact tt0) ?_|fail)
 all_goals exact As Ab rfl (by simp)
theorem GP (a b:Int):FnS Tryz.prog 154 [AI a,AI b] [] (AI (Ha a b)) []:=by
 refine fb Tryz.func154 (by kernel_rfl) rfl Tryz.ntmps154 Tryz.results154 rfl rfl rfl rfl fun E hS=>?_
 repeat'(first|refine sB ?_|refine Aj rfl (by exact tt0) ?_|(refine gC ?_;first|refine AN (GJ _) (gk rfl) rfl rfl rfl rfl rfl rfl ?_)|(refine gD ?_;first|refine Ag rfl ?_|(refine Ay rfl ?_ ?_<;>intro h<;>have hq:=h<;>(try simp only[hqs] at hq)))|fail)
 all_goals refine AG Ab rfl ?_
 all_goals unfold Ha
 all_goals repeat' split
 all_goals first|rfl|(exfalso;simp_all;done)|(exfalso;omega)|trace_state
def orI:List Int->Int
 |[]=>0
 |x :: l=>if x≠0 then x else orI l
abbrev ints (l:List Int):D:=IS (fun x=>[.int .i64 x]) 1 l
theorem J2:∀(l:List Int) (k:Nat),(∀i,i<k->l.getD i 0=0)->k<=l.length->orI l=orI (l.drop k)
 |l,0,_,_=>rfl
 |[],k+1,_,h=>absurd h (by simp)
 |x :: l,k+1,h,hk=>by
  have h0:x=0:=h 0 (by omega);rw[List.drop_succ_cons,<-J2 l k (fun i hi=>h (i+1) (by omega)) (by simpa using hk)];simp[orI,h0]
theorem PB (l:List Int):FnS Tryz.prog 153 [AD (ints l)] [] (AI (orI l)) []:=by
 refine fb Tryz.func153 (by kernel_rfl) rfl Tryz.ntmps153 Tryz.results153 rfl rfl rfl rfl fun E hS=>?_
 refine BP (t:=0) rfl fun hb=>?_
 repeat'(first|refine sC ?_|refine Aj rfl (by exact tt0) ?_|fail)
 refine AA (ι:=Nat) (fun k=>AS [(3,AI 0),(6,AD (ints l)),(7,AI l.length),(8,AI k)] []) (fun k=>k<=l.length/\∀i,i<k->l.getD i 0=0) (fun k=>l.length-k) 0 ⟨AeV _,fun i hi=>absurd hi (AeQ _)⟩ ?_ ?_
 ·exact B4 ⟨rfl,rfl,rfl,rfl,trivial⟩ trivial rfl
 ·intro k hk
  repeat'(first|refine sC ?_|refine Aj rfl (by first|exact tt0|omega) ?_|(refine gI ?_;first|refine Aq (gk rfl) rfl rfl rfl rfl rfl (by omega) rfl ?_)|(refine gD ?_;first|(refine Ay rfl ?_ ?_<;>intro h<;>have hq:=h<;>(try simp only[hqs] at hq)))|fail)
  ·refine AG Ab rfl ?_;rw[J2 l k hk.2 hk.1,List.drop_eq_getElem_cons (by omega),orI,AeT]
   ·simp[Aec];rw[Ael (by omega)];rfl
   ·rw[Aec,Ael (by omega)] at hq;exact hq
  ·refine⟨k+1,⟨by omega,fun i hi=>?_⟩,by omega,B4 ⟨rfl,rfl,rfl,rfl,trivial⟩ trivial rfl⟩;by_cases hik:i<k
   ·exact hk.2 i hik
   ·have:i=k:=by omega
    subst this;exact hq
  ·refine AG Ab rfl ?_;rw[J2 l k hk.2 hk.1,List.drop_of_length_le (by omega)];rfl
def Nb.cs (x:Nb):List C:=[.d (.int .i64 x.node),.d (.int .i64 x.epoch),.d (.int .i64 x.rank),.d (.int .i64 x.slot),.d (.int .i64 x.att),.d (.int .i64 x.ack)]
abbrev nbA (x:Nb):AV:=.agg x.cs
theorem SM (x:Nb) (t:Int):FnS Tryz.prog 251 [nbA x,AI t] [] (AI (Ha x.node t)) []:=by
 refine fb Tryz.func251 (by kernel_rfl) rfl Tryz.ntmps251 Tryz.results251 rfl rfl rfl rfl fun E hS=>?_
 repeat'(first|refine sB ?_|refine Aj rfl (by exact tt0) ?_|(refine gC ?_;first|refine AN (GP _ _) (gk rfl) rfl rfl rfl rfl rfl rfl ?_)|fail)
 all_goals exact AG Ab rfl rfl
def bs (f:Nat->Bool) (i j:Nat):Nat:=if i<j then(if f ((i+j)/2) then bs f ((i+j)/2+1) j else bs f i ((i+j)/2)) else i
termination_by j-i
decreasing_by all_goals omega
def KT (t:Int) (x:Nb):Int:=Ha x.node t
def C5 (l:List Nb) (t:Int):Nat:=bs (fun i=>decide (KT t (l.getD i default)<0)) 0 l.length
theorem Z5 (f:Nat->Bool) (i j:Nat) (h:i<=j):bs f i j<=j:=by
 fun_induction bs f i j with
 |case1 i j hij hf ih=>exact ih (by omega)
 |case2 i j hij hf ih=>exact Ae4 (ih (by omega)) (by omega)
 |case3=>exact h
def BS (l:List Nb) (t:Int):Bool:=decide (C5 l t<l.length)&&decide (KT t (l.getD (C5 l t) default)=0)
abbrev UW:List DV->DV->Prop:=fun ds r=>∃(x:Nb) (t:Int),ds=[.agg x.enc,.d (.int .i64 t)]/\r=.d (.int .i64 (Ha x.node t))
theorem Pm (l:List Nb) (t:Int) (hl:l.length<=1000000):FnS Tryz.prog 250 [AD (nbs l),AI t,.clo UW] [] (.tup [AI (C5 l t),AB (BS l t)]) []:=by
 refine fb Tryz.func250 (by kernel_rfl) rfl Tryz.ntmps250 Tryz.results250 rfl rfl rfl rfl fun E hS=>?_
 repeat'(first|refine sC ?_|refine Aj rfl (by exact tt0) ?_|fail)
 refine AA (ι:=Nat×Nat) (fun p=>AS [(0,AD (nbs l)),(1,AI t),(2,.clo UW),(8,AI l.length),(9,AI p.1),(10,AI p.2)] [])
  (fun p=>p.1<=p.2/\p.2<=l.length/\bs (fun i=>decide (KT t (l.getD i default)<0)) p.1 p.2=C5 l t) (fun p=>p.2-p.1) (0,l.length) ⟨AeV _,AeU _,rfl⟩ ?_ ?_
 ·exact B4 ⟨rfl,rfl,rfl,rfl,rfl,rfl,trivial⟩ trivial rfl
 ·rintro⟨i,j⟩ ⟨h1,h2,h3⟩;dsimp only at h1 h2 h3 ⊢
  repeat'(first|refine sC ?_|refine Aj rfl (by first|exact tt0|omega) ?_|(refine gC ?_;first|refine EV (⟨_,_,rfl,rfl⟩) (gk rfl) rfl rfl rfl rfl ?_)|(refine gI ?_;first|refine Aq (gk rfl) rfl rfl rfl rfl rfl (by omega) rfl ?_|refine D4 (gk rfl) rfl rfl rfl rfl (by omega) rfl ?_)|(refine gV ?_;first|refine Ba (gk rfl) rfl ⟨_,rfl⟩ rfl (by first|exact wrap_i64 (by omega)|exact wrap_u64 (by omega)) rfl ?_)|(refine gB ?_;first|refine MZ (m:=1) (gk rfl) rfl rfl rfl (by decide) rfl ?_)|(refine Ax rfl ?_ ?_<;>intro h<;>have hq:=h<;>(try simp only[hqs] at hq))|(refine gD ?_;first|(refine Ay rfl ?_ ?_<;>intro h<;>have hq:=h<;>(try simp only[hqs] at hq)))|fail)
  ·have e:(((i:Int)+(j:Int))/2^1).toNat=(i+j)/2:=by omega
   rw[e] at hq;refine⟨((i+j)/2+1,j),⟨by dsimp only;omega,h2,?_⟩,by dsimp only;omega,B4 ⟨rfl,rfl,rfl,rfl,XB ?_ rfl,rfl,trivial⟩ trivial rfl⟩
   ·rw[<-h3]
    conv=>rhs;rw[bs,AeT (by omega)]
    rw[AeT];exact Aed hq
   ·congr 1<;>omega
  ·have e:(((i:Int)+(j:Int))/2^1).toNat=(i+j)/2:=by omega
   rw[e] at hq;refine⟨(i,(i+j)/2),⟨by dsimp only;omega,by dsimp only;omega,?_⟩,by dsimp only;omega,B4 ⟨rfl,rfl,rfl,rfl,rfl,XB ?_ rfl,trivial⟩ trivial rfl⟩
   ·rw[<-h3]
    conv=>rhs;rw[bs,AeT (by omega)]
    rw[AeS];rw[Aef];exact Int.not_lt.2 hq
   ·congr 1<;>omega
  all_goals(have e0:C5 l t=i:=by
             rw[<-h3,bs,AeS (by omega)])
  all_goals refine Cx Ab rfl rfl (by rw[e0]) ?_
  all_goals simp_all [BS,KT]<;>omega
theorem W8 {σ:St} {L:List Nat}:AR Tryz.prog σ L (.fnc 251 []) (.clo UW):=
 .fnc .nil (enters_of Tryz.func251 (by kernel_rfl) rfl) (by rintro _ _ ⟨x,t,rfl,rfl⟩;exact⟨rfl,SM x t⟩)
theorem find_spec (l:List Nb) (t:Int) (hl:l.length<=1000000):FnS Tryz.prog 180 [AD (nbs l),AI t] [] (.tup [AI (C5 l t),AB (BS l t)]) []:=by
 refine fb Tryz.func180 (by kernel_rfl) rfl Tryz.ntmps180 Tryz.results180 rfl rfl rfl rfl fun E hS=>?_
 repeat'(first|refine sB ?_|refine Aj rfl (by exact tt0) ?_|(refine gC ?_;first|refine Ip [] (Pm l _ hl) (gk rfl) rfl (by(repeat'(first|exact .nil|refine .cons ?_ ?_|exact .of0 (.c .d)|exact(W8)))<;>fail) rfl rfl rfl rfl rfl ?_)|fail)
 all_goals exact Cx Ab rfl rfl rfl rfl
structure Lk where
 n:Nb
 idx:Int
 cost:Int
 deriving DecidableEq,Inhabited
def Lk.cs (x:Lk):List C:=[.d (.int .i64 x.n.node),.d (.int .i64 x.n.epoch),.d (.int .i64 x.n.rank),.d (.int .i64 x.n.slot),.d (.int .i64 x.n.att),.d (.int .i64 x.n.ack),.d (.int .i64 x.idx),.d (.int .i64 x.cost)]
def Lk.enc (x:Lk):List D:=[.int .i64 x.n.node,.int .i64 x.n.epoch,.int .i64 x.n.rank,.int .i64 x.n.slot,.int .i64 x.n.att,.int .i64 x.n.ack,.int .i64 x.idx,.int .i64 x.cost]
abbrev lks (l:List Lk):D:=IS Lk.enc 8 l
abbrev lkA (x:Lk):AV:=.agg x.cs
def Lk.path (x:Lk):Int:=IntKind.i64.wrap (x.n.rank+x.cost)
theorem HO (x:Lk):FnS Tryz.prog 189 [lkA x] [] (AI x.path) []:=by
 refine fb Tryz.func189 (by kernel_rfl) rfl Tryz.ntmps189 Tryz.results189 rfl rfl rfl rfl fun E hS=>?_
 repeat'(first|refine sB ?_|refine Aj rfl (by exact tt0) ?_|(refine gB ?_;first|refine IM rfl rfl rfl rfl rfl ?_)|fail)
 all_goals exact AG Ab rfl rfl
def II (a b:Lk):Int:=orI [Ha b.n.epoch a.n.epoch,Ha a.path b.path,Ha a.n.node b.n.node]
theorem Qn (a b:Lk):FnS Tryz.prog 258 [lkA a,lkA b] [] (AI (II a b)) []:=by
 refine fb Tryz.func258 (by kernel_rfl) rfl Tryz.ntmps258 Tryz.results258 rfl rfl rfl rfl fun E hS=>?_
 repeat'(first|refine sB ?_|refine Aj rfl (by exact tt0) ?_|(refine gC ?_;first|refine AN (GP _ _) (gk rfl) rfl rfl rfl rfl rfl rfl ?_|refine AN (HO a) (gk rfl) rfl rfl rfl rfl rfl rfl ?_|refine AN (HO b) (gk rfl) rfl rfl rfl rfl rfl rfl ?_|refine Ip [24] (PB [_,_,_]) (gk rfl) rfl (by(repeat'(first|exact .nil|refine .cons ?_ ?_|exact .of0 (.c (H4 (by decide) rfl rfl (by repeat'(first|exact tt0|refine⟨?_,?_⟩|rfl))))))<;>fail) rfl rfl rfl rfl rfl ?_)|refine Ap (by kernel_rfl) ?_|fail)
 all_goals exact AG Ab rfl rfl
def HQ (l:List Lk):Nat->Lk
 |0=>l.getD 0 default
 |k+1=>if II (l.getD (k+1) default) (HQ l k)<0 then l.getD (k+1) default else HQ l k
abbrev MF:List DV->DV->Prop:=fun ds r=>∃(a b:Lk),ds=[.agg a.enc,.agg b.enc]/\r=.d (.int .i64 (II a b))
abbrev Yc:List C:=[.d (.int .i64 0),.d (.int .i64 0),.d (.int .i64 0),.d (.int .i64 0),.d (.int .i64 0),.d (.int .i64 0),.d (.int .i64 0),.d (.int .i64 0)]
theorem WM (l:List Lk) (h0:0<l.length) (hl:l.length<=1000000):FnS Tryz.prog 257 [AD (lks l),.clo MF] [] (lkA (HQ l (l.length-1))) []:=by
 refine fb Tryz.func257 (by kernel_rfl) rfl Tryz.ntmps257 Tryz.results257 rfl rfl rfl rfl fun E hS=>?_
 repeat'(first|refine sC ?_|refine Aj rfl (by exact tt0) ?_|(refine gI ?_;first|refine Aq (gk rfl) rfl rfl rfl rfl rfl (by omega) rfl ?_)|(refine gD ?_;first|(refine Ay rfl ?_ ?_<;>intro h<;>have hq:=h<;>(try simp only[hqs] at hq)))|fail)
 ·exfalso;omega
 refine AA (ι:=Nat×Lk) (fun p=>AS [(0,AD (lks l)),(1,.clo MF),(4,.c (.ptr 4 0)),(5,.c (.ptr 5 0)),(6,AI (p.1+1:Nat))] [(4,.box Yc),(5,.box p.2.cs)])
  (fun p=>p.1+1<=l.length/\p.2=HQ l p.1) (fun p=>l.length-p.1) (0,l.getD 0 default) ⟨by dsimp only;omega,rfl⟩ ?_ ?_
 ·exact B4 ⟨rfl,rfl,rfl,rfl,rfl,trivial⟩ ⟨rfl,rfl,trivial⟩ rfl
 ·rintro⟨k,m⟩ ⟨h1,h2⟩;dsimp only at h1 h2 ⊢
  repeat'(first|refine sC ?_|refine Aj rfl (by first|exact tt0|omega) ?_|(refine gC ?_;first|refine EV (⟨_,_,rfl,rfl⟩) (gk rfl) rfl rfl rfl rfl ?_)|(refine gI ?_;first|refine Aq (gk rfl) rfl rfl rfl rfl rfl (by omega) rfl ?_)|refine Ap (by kernel_rfl) ?_|(refine gD ?_;first|(refine Ay rfl ?_ ?_<;>intro h<;>have hq:=h<;>(try simp only[hqs] at hq)))|fail)
  ·have e:((k+1:Nat):Int).toNat=k+1:=by omega
   refine⟨(k+1,l.getD (k+1) default),⟨by dsimp only;omega,?_⟩,by dsimp only;omega,B4 ⟨rfl,rfl,rfl,rfl,rfl,trivial⟩ ⟨rfl,rfl,trivial⟩ rfl⟩;rw[HQ,<-h2,AeT hq]
  ·refine⟨(k+1,m),⟨by dsimp only;omega,?_⟩,by dsimp only;omega,B4 ⟨rfl,rfl,rfl,rfl,rfl,trivial⟩ ⟨rfl,rfl,trivial⟩ rfl⟩;rw[HQ,<-h2,AeS (by omega)]
  all_goals have e:l.length-1=k:=by omega
  all_goals refine Jh Ab rfl rfl rfl rfl ?_
  all_goals rw[e,<-h2]
  all_goals rfl
theorem BK {l:List Nb} (h:checkNb l=0):l.length<=32/\∀i,i<l.length->Ho l i=0:=by
 unfold checkNb at h
 split at h
 ·cases h
 ·refine⟨by omega,fun i hi=>?_⟩;unfold Dc at h;cases hf:(List.range l.length).find? (fun i=>Ho l i != 0) with
  |none=>
   have:=List.find?_eq_none.1 hf i (AeL.2 hi);simpa using this
  |some j=>
   rw[hf] at h;have:=List.find?_some hf;simp only[bne_iff_ne,ne_eq] at this;exact absurd h this
theorem Cu {l:List Nb} {i:Nat} (h:Ho l i=0):DF (l.getD i default).node (l.getD i default).epoch (l.getD i default).rank (l.getD i default).slot=true/\(0<=(l.getD i default).att/\(l.getD i default).att<=255) /\
  (0<=(l.getD i default).ack/\(l.getD i default).ack<=(l.getD i default).att):=by
 unfold Ho at h;simp only at h
 split at h
 ·rename_i hh;simp only[Aen,C0] at hh;exact⟨hh.1.1,hh.1.2,hh.2⟩
 ·cases h
def Js (l:List Nb) (i:Nat):Lk:=⟨l.getD i default,i,I8 (l.getD i default).att (l.getD i default).ack⟩
def Acp (r:Rk) (x:Lk):Bool:=decide (x.n.node≠r.node)&&KZ r x.n.epoch x.n.rank&&decide (x.path<65535)
def DR (l:List Nb) (r:Rk):Nat->List Lk
 |0=>[]
 |k+1=>if Acp r (Js l k)=true then DR l r k++[Js l k] else DR l r k
theorem N0 (l:List Nb) (r:Rk):∀k,(DR l r k).length<=k
 |0=>AeU _
 |k+1=>by
  have:=N0 l r k;unfold DR
  split
  ·simp;omega
  ·omega
theorem S4 {σ:St} {L:List Nat}:AR Tryz.prog σ L (.fnc 258 []) (.clo MF):=
 .fnc .nil (enters_of Tryz.func258 (by kernel_rfl) rfl) (by rintro _ _ ⟨a,b,rfl,rfl⟩;exact⟨rfl,Qn a b⟩)
def Hb (l:List Nb) (r:Rk):Lk:=HQ (DR l r l.length) ((DR l r l.length).length-1)
def SD (l:List Nb) (r:Rk):Bool:=decide ((DR l r l.length).length≠0)
theorem Nu {P:Program} {σ:St} {t u nm:Nat} {T:TypeId} {ti:TyI} {cs cs':List C} {x x':D} {e:Exit} (he:e=.normal\/e=.ret) [ht:AM P T ti] (hx:σ (.s t)=some (.v (.c (.ptr nm 0)))) (hb:σ (.b nm)=some (.k (.box cs'))) (hagg:ti.isAgg=true)
  (hl:(cs'.take ti.size).length=ti.size) (hu:σ (.s u)=some (.v (AD x'))) (h:cs=cs'.take ti.size) (h2:x=x'):Hm P [.cell t T,.tmp u] (.tup [.agg cs,AD x]) [] e σ:=
 D5 he hx hb hagg hl hu h h2
theorem VA (l:List Nb) (r:Rk) (hc:checkNb l=0):FnS Tryz.prog 188 [AD (nbs l),rkA r] [] (.tup [lkA (Hb l r),AB (SD l r)]) []:=by
 obtain⟨hlen,hall⟩:=BK hc;refine fb Tryz.func188 (by kernel_rfl) rfl Tryz.ntmps188 Tryz.results188 rfl rfl rfl rfl fun E hS=>?_
 repeat'(first|refine sR ?_|refine Aj rfl (by exact tt0) ?_|(show VC _ (.seq (.region _ _ _) _) _ _;refine BB ?_)|fail)
 refine JI (AS [(3,.c (.ptr 3 0)),(4,.c (.ptr 4 0)),(5,AB false),(6,AD (lks (DR l r l.length)))] [(3,.box r.cs),(4,.box Yc)]) ?_ ?_
 ·repeat'(first|refine sC ?_|refine Aj rfl (by exact tt0) ?_|fail)
  refine AA (ι:=Nat×List Lk) (fun p=>AS [(3,.c (.ptr 3 0)),(4,.c (.ptr 4 0)),(5,AB false),(6,.c (.row 44 p.2.length)),(10,AD (nbs l)),(11,AI l.length),(12,AI p.1)] [(3,.box r.cs),(4,.box Yc),(44,.row 253 8 (rowOf Lk.enc p.2))])
   (fun p=>p.1<=l.length/\p.2=DR l r p.1/\p.2.length<=p.1) (fun p=>l.length-p.1) (0,[]) ⟨AeV _,rfl,AeV _⟩ ?_ ?_
  ·exact(le_nil (t:=6) (nm:=44) (T:=253) (sz:=8) rfl rfl).trans (B4 ⟨rfl,rfl,rfl,rfl,rfl,rfl,rfl,trivial⟩ ⟨rfl,rfl,rfl,trivial⟩ rfl)
  ·rintro⟨k,ls⟩ ⟨h1,h2,h3⟩;dsimp only at h1 h2 h3 ⊢;have hatt:k<l.length->(l.getD k default).att<=255:=fun h=>(Cu (hall k h)).2.1.2
   have hrl:(rowOf Lk.enc ls).length=ls.length:=Al
   repeat'(first|refine sC ?_|refine Aj rfl (by first|exact tt0|omega) ?_|(refine gC ?_;first|refine AN (Ot _ _ (by omega)) (gk rfl) rfl rfl rfl rfl rfl rfl ?_|refine AN (Om r _ _) (gk rfl) rfl rfl rfl rfl rfl rfl ?_|refine AN (HO (Js l k)) (gk rfl) rfl rfl rfl rfl rfl rfl ?_)|(refine gI ?_;first|refine Aq (gk rfl) rfl rfl rfl rfl rfl (by omega) rfl ?_)|(refine gA ?_;first|refine RF (gk rfl) rfl rfl rfl (by exact Al.symm) (by exact .row rfl (by rfl)) rfl rfl rfl (by(try dsimp only);omega) rfl rfl ?_)|(refine Ax rfl ?_ ?_<;>intro h<;>have hq:=h<;>(try simp only[hqs] at hq))|refine Ap (by kernel_rfl) ?_|(refine gD ?_;first|refine Ag rfl ?_|(refine Ay rfl ?_ ?_<;>intro h<;>have hq:=h<;>(try simp only[hqs] at hq)))|fail)
   ·refine⟨(k+1,ls++[Js l k]),⟨by dsimp only;omega,?_,by simp;omega⟩,by dsimp only;omega,?_⟩
    ·rw[DR,AeT,<-h2]
     simp_all [Acp,Js]
    ·refine Bv (fun n=>if n=44 then 100044 else n) [] hS ⟨⟨_,rfl,.c (.ptr rfl)⟩,⟨_,rfl,.c (.ptr rfl)⟩,⟨_,rfl,.c .d⟩,⟨_,rfl,.c (.row rfl (by simp))⟩,⟨_,rfl,.c .d⟩,⟨_,rfl,.c .d⟩,⟨_,rfl,.c .d⟩,trivial⟩
      ⟨⟨_,rfl,.Bh rfl rfl⟩,⟨_,rfl,.Bh rfl rfl⟩,⟨_,rfl,.Bc (by rw[A4];rfl) Ai⟩,trivial⟩ rfl (by simp only[wfL,List.all_cons,List.all_nil,AY];rfl)
   all_goals try (refine⟨(k+1,ls),⟨by dsimp only;omega,?_,by dsimp only;omega⟩,by dsimp only;omega,Bv (fun n=>n) [] hS ⟨⟨_,rfl,.c (.ptr rfl)⟩,⟨_,rfl,.c (.ptr rfl)⟩,⟨_,rfl,.c .d⟩,⟨_,rfl,.c (.row rfl rfl)⟩,⟨_,rfl,.c .d⟩,⟨_,rfl,.c .d⟩,⟨_,rfl,.c .d⟩,trivial⟩
      ⟨⟨_,rfl,.Bh rfl rfl⟩,⟨_,rfl,.Bh rfl rfl⟩,⟨_,rfl,.Bc rfl Ai⟩,trivial⟩ rfl (by simp only[wfL,List.all_cons,List.all_nil,AY];rfl)⟩
                  rw[DR,AeS,<-h2]
                  simp_all [Acp,Js])
   ·have e:k=l.length:=by omega
    subst e;subst h2;exact Bv (fun n=>n) [44] hS ⟨⟨_,rfl,.c (.ptr rfl)⟩,⟨_,rfl,.c (.ptr rfl)⟩,⟨_,rfl,.c .d⟩,⟨_,rfl,.c (.Ck (by simp) rfl rfl (fun _=>rfl))⟩,trivial⟩ ⟨⟨_,rfl,.Bh rfl rfl⟩,⟨_,rfl,.Bh rfl rfl⟩,trivial⟩ rfl rfl
 ·have hll:=N0 l r l.length;have hz:decide (((DR l r l.length).length:Int)=0)=false->0<(DR l r l.length).length:=fun h=>by
   have:=AeD h;omega
  repeat'(first|refine sB ?_|refine Aj rfl (by exact tt0) ?_|(refine gC ?_;first|refine Ip [] (WM (DR l r l.length) (hz (by assumption)) (by omega)) (gk rfl) rfl (by(repeat'(first|exact .nil|refine .cons ?_ ?_|exact .of0 (.c .d)|exact(S4)))<;>fail) rfl rfl rfl rfl rfl ?_)|(refine gD ?_;first|(refine Ay rfl ?_ ?_<;>intro h<;>have hq:=h<;>(try simp only[hqs] at hq)))|fail)
  ·refine Nu Ab rfl rfl rfl rfl rfl ?_ ?_
   ·have:DR l r l.length=[]:=Ae3 (by omega);rw[Hb,this];rfl
   ·rw[SD,Aee (by omega)]
  ·refine Nu Ab rfl rfl rfl rfl rfl rfl ?_;rw[SD,Aed (by omega)]

def CF (l:List Nb) (r:Rk):Rk:=
 if 0<=r.parent then
  (if BS l r.parent=true then(update' r (l.getD (C5 l r.parent) default).epoch (l.getD (C5 l r.parent) default).rank (I8 (l.getD (C5 l r.parent) default).att (l.getD (C5 l r.parent) default).ack)).1 else Hp r)
 else r
def LW (l:List Nb) (r1:Rk) (m:Int):Bool:=
 SD l r1&&(decide (r1.parent=-1)||decide (r1.epoch<(Hb l r1).n.epoch)||decide (IntKind.i64.wrap ((Hb l r1).path+m)<r1.rank))
def Is (l:List Nb) (r1:Rk) (m:Int):Rk:=
 if LW l r1 m=true then(Hc r1 (Hb l r1).n.node (Hb l r1).n.epoch (Hb l r1).n.rank (Hb l r1).cost).1 else r1
def select' (l:List Nb) (r:Rk) (m:Int):Rk×Bool×Int:=
 if checkNb l≠0\/rkErr r≠0 then(rkZ,false,1)
 else if inR m 0 65535=false then(rkZ,false,2)
 else if r.node=0 then(r,false,0)
 else(Is l (CF l r) m,decide ((Is l (CF l r) m).parent≠r.parent),0)
abbrev Aat:List C:=[.d (.int .i64 0),.d (.int .i64 0),.d (.int .i64 0),.d (.int .i64 0),.d (.int .i64 0),.d (.int .i64 0)]
theorem La {P:Program} {σ:St} {t u v nm:Nat} {T:TypeId} {ti:TyI} {cs cs':List C} {x x' y y':D} {e:Exit} (he:e=.normal\/e=.ret) [ht:AM P T ti] (hx:σ (.s t)=some (.v (.c (.ptr nm 0)))) (hb:σ (.b nm)=some (.k (.box cs'))) (hagg:ti.isAgg=true)
  (hl:(cs'.take ti.size).length=ti.size) (hu:σ (.s u)=some (.v (AD x'))) (hv:σ (.s v)=some (.v (AD y'))) (h:cs=cs'.take ti.size) (h2:x=x') (h3:y=y'):Hm P [.cell t T,.tmp u,.tmp v] (.tup [.agg cs,AD x,AD y]) [] e σ:=
 ⟨he,[.agg ((cs'.drop 0).take ti.size),AD x',AD y'],.agg hx hb hagg hl (.tmp rfl hu (.tmp rfl hv .nil)),by rw[h,h2,h3];rfl,fun p hp=>by cases hp⟩
theorem UR (l:List Nb) (t:Int):(BS l t=true)=(C5 l t<l.length/\KT t (l.getD (C5 l t) default)=0):=by simp[BS]
theorem Ab3 {l:List Nb} (h:checkNb l=0) (k:Nat):(l.getD k default).att<=255:=by
 by_cases hk:k<l.length
 ·exact(Cu ((BK h).2 k hk)).2.1.2
 ·rw[Aec,AeJ (by omega)];decide
theorem AbT {σ:St} {k:Key} {cs cs':List C} (h:cs=cs') (hx:σ k=some (.k (.box cs))):σ k=some (.k (.box cs')):=by rw[<-h];exact hx
set_option maxHeartbeats 2000000 in
theorem Ph (l:List Nb) (r:Rk) (m:Int):FnS Tryz.prog 135 [AD (nbs l),rkA r,AI m] [] (.tup [rkA (select' l r m).1,AB (select' l r m).2.1,AI (select' l r m).2.2]) []:=by
 refine fb Tryz.func135 (by kernel_rfl) rfl Tryz.ntmps135 Tryz.results135 rfl rfl rfl rfl fun E hS=>?_
 repeat'(first|refine sR ?_|refine Aj rfl (by exact tt0) ?_|(refine gC ?_;first|refine AN (BE l) (gk rfl) rfl rfl rfl rfl rfl rfl ?_|refine AN (Dg r) (gk rfl) rfl rfl rfl rfl rfl rfl ?_|refine AN (DN _ _ _) (gk rfl) rfl rfl rfl rfl rfl rfl ?_)|(refine Ax rfl ?_ ?_<;>intro h<;>have hq:=h<;>(try simp only[Aef,Aeg,Int.not_lt,Int.not_le,ne_eq,Aeo,Bool.not_eq_true',Bool.not_eq_false',C0,Sw] at hq))|refine sq 8 rfl ?_|(refine gD ?_;first|refine Ah rfl ?_|(refine Ay rfl ?_ ?_<;>intro h<;>have hq:=h<;>(try simp only[Aef,Aeg,Int.not_lt,Int.not_le,ne_eq,Aeo,Bool.not_eq_true',Bool.not_eq_false',C0,Sw] at hq)))|refine BV ?_|fail)
 --A
 all_goals first
  |(refine La Ab rfl rfl rfl rfl rfl rfl ?_ ?_ ?_
    all_goals unfold select'
    all_goals repeat' split
    all_goals first|rfl|(exfalso;simp_all;done))
  |skip
 --B
 have hc:checkNb l=0:=by simp_all
 have hr:rkErr r=0:=by simp_all
 have hm:inR m 0 65535=true:=by simp_all
 have hn:¬r.node=0:=by simp_all
 have hlen:=(BK hc).1;have hall:=(BK hc).2
 --C
 refine JI (AS [(0,AD (nbs l)),(2,AI m),(4,.c (.ptr 4 0)),(6,.c (.ptr 6 0)),(7,AB false),(8,AI 0),(9,AI r.parent)] [(4,.box (CF l r).cs),(6,.box Aat)]) ?_ ?_
 ·have hatt:=Ab3 hc (C5 l r.parent)
  repeat'(first|refine sB ?_|refine Aj rfl (by exact tt0) ?_|(refine gC ?_;first|refine AN (find_spec l _ (by omega)) (gk rfl) rfl rfl rfl rfl rfl rfl ?_|refine AN (Ot _ _ (by omega)) (gk rfl) rfl rfl rfl rfl rfl rfl ?_|refine AN (Pc r _ _ _) (gk rfl) rfl rfl rfl rfl rfl rfl ?_|refine AN (NT r) (gk rfl) rfl rfl rfl rfl rfl rfl ?_)|(refine gI ?_;first|refine Aq (gk rfl) rfl rfl rfl rfl rfl (by omega) rfl ?_)|refine Ap (by kernel_rfl) ?_|(refine gD ?_;first|(refine Ay rfl ?_ ?_<;>intro h<;>have hq:=h<;>(try simp only[Aef,Aeg,Int.not_lt,Int.not_le,ne_eq,Aeo,Bool.not_eq_true',Bool.not_eq_false',UR] at hq)))|fail)
  all_goals refine B4 ⟨rfl,rfl,rfl,rfl,rfl,rfl,rfl,trivial⟩ ⟨AbT ?_ rfl,rfl,trivial⟩ rfl
  all_goals unfold CF
  all_goals repeat' split
  all_goals first|rfl|(exfalso;simp_all;done)|(exfalso;omega)
 refine JI (AS [(4,.c (.ptr 4 0)),(6,.c (.ptr 6 0)),(7,AB false),(8,AI 0),(9,AI r.parent)] [(4,.box (Is l (CF l r) m).cs),(6,.box Aat)]) ?_ ?_
 ·repeat'(first|refine sB ?_|refine Aj rfl (by exact tt0) ?_|(refine gC ?_;first|refine AN (VA l (CF l r) hc) (gk rfl) rfl rfl rfl rfl rfl rfl ?_|refine AN (LI (CF l r) _ _ _ _) (gk rfl) rfl rfl rfl rfl rfl rfl ?_|refine AN (HO (Hb l (CF l r))) (gk rfl) rfl rfl rfl rfl rfl rfl ?_)|(refine gB ?_;first|refine IM rfl rfl rfl rfl rfl ?_)|(refine Ax rfl ?_ ?_<;>intro h<;>have hq:=h<;>(try simp only[hqs] at hq))|refine Ap (by kernel_rfl) ?_|(refine gD ?_;first|refine Ah rfl ?_|refine Ag rfl ?_|(refine Ay rfl ?_ ?_<;>intro h<;>have hq:=h<;>(try simp only[hqs] at hq)))|fail)
  all_goals refine B4 ⟨rfl,rfl,rfl,rfl,rfl,trivial⟩ ⟨AbT ?_ rfl,rfl,trivial⟩ rfl
  all_goals unfold Is LW
  all_goals split
  all_goals first|rfl|(exfalso;simp_all;done)|(exfalso;simp_all;omega)
 ·repeat'(first|refine sB ?_|refine Aj rfl (by exact tt0) ?_|refine Ap (by kernel_rfl) ?_|fail)
  refine La Ab rfl rfl rfl rfl rfl rfl ?_ ?_ ?_
  all_goals unfold select'
  all_goals rw[AeS (by simp[hc,hr]),AeS (by simp[hm]),AeS hn]
  all_goals rfl


def KR (x:Nb):Int:=IntKind.i64.wrap (x.rank+I8 x.att x.ack)
theorem Ps {r:Rk} (h:rkErr r=0):D7 r.node=true/\inR r.epoch 0 65535=true/\FU r=true/\EX r=true:=by
 unfold rkErr at h
 split at h
 ·rename_i h1;simp only[Aen] at h1
  split at h
  ·exact⟨h1.1.1,h1.1.2,h1.2,‹_›⟩
  ·cases h
 ·cases h
theorem TM {r:Rk} (h1:D7 r.node=true) (h2:inR r.epoch 0 65535=true) (h3:FU r=true) (h4:EX r=true):rkErr r=0:=by
 simp[rkErr,h1,h2,h3,h4]
theorem Nt {r:Rk} (h:rkErr r=0) (hp:r.parent≠-1):r.node≠0/\D7 r.parent=true/\r.parent≠r.node/\1<=r.epoch/\0<=r.heard/\r.heard<r.rank/\r.heard<r.least/\r.rank<65535:=by
 obtain⟨_,_,_,h4⟩:=Ps h;unfold EX at h4
 split at h4
 ·simp only[Aen,Aef] at h4;exact absurd h4.1.1.1.2 hp
 ·rename_i hn;simp only[AeS hp,Aen,Aef,ne_eq] at h4;exact⟨hn,h4.1.1.1.1.1.1,h4.1.1.1.1.1.2,h4.1.1.1.1.2,h4.1.1.1.2,h4.1.1.2,h4.1.2,h4.2⟩
theorem QL {r:Rk} {e:Int} (h:rkErr r=0) (he:1<=e/\e<=65535) (hp:r.parent≠-1):rkErr (BN r e)=0:=by
 unfold BN
 split
 ·obtain⟨h1,h2,h3,h4⟩:=Ps h;obtain⟨g1,g2,g3,g4,g5,g6,g7,g8⟩:=Nt h hp;refine TM h1 ?_ ?_ ?_
  ·simp[inR];omega
  ·simp[FU,inR]
  ·simp[EX,g1,hp,g2,g3,g5,g6,g8];omega
 ·exact h
def oI:Option Nat->Int
 |none=>-1
 |some i=>i
theorem W7 {n k:Nat} {p:Nat->Bool} (h:∀i,i<k->p i=false) (hk:k<n) (he:p k=true):(List.range n).find? p=some k:=by
 rw[List.find?_range_eq_some];exact⟨he,AeL.2 hk,fun j hj=>by simp[h j hj]⟩
theorem UX {n:Nat} {p:Nat->Bool} (h:∀i,i<n->p i=false):(List.range n).find? p=none:=by
 rw[List.find?_range_eq_none];exact fun i hi=>by simp[h i hi]
def QT (r:Rk) (x:Nb):Bool:=decide (x.node≠r.node)&&KZ r x.epoch x.rank&&decide (KR x<65535)
def Kv (x y:Nb):Bool:=decide (y.epoch<x.epoch)||(decide (x.epoch=y.epoch)&&decide (KR x<KR y))
def L7 (l:List Nb) (r:Rk):Nat->Option Nat
 |0=>none
 |k+1=>if QT r (l.getD k default)=true then
   (match L7 l r k with
    |none=>some k
    |some b=>if Kv (l.getD k default) (l.getD b default)=true then some k else some b)
  else L7 l r k
theorem JV {l:List Nb} {r:Rk}:∀{k b:Nat},L7 l r k=some b->b<k
 |0,b,h=>by cases h
 |k+1,b,h=>by
  unfold L7 at h
  split at h
  ·split at h
   ·injection h with h;omega
   ·rename_i hb;have:=JV hb
    split at h<;>(injection h with h;omega)
  ·have:=JV h;omega
end Go.Proofs.P
end
section
namespace Go.Proofs.P
open Go Go.Sx
theorem Se {l:List Nb} (h:checkNb l=0) {i:Nat} (h0:0<i) (hi:i<l.length):(l.getD (i-1) default).node<(l.getD i default).node:=by
 have:=(BK h).2 i hi;unfold Ho at this;simp only at this
 split at this
 ·split at this
  ·cases this
  ·rename_i hn;omega
 ·cases this
theorem Md {l:List Nb} (h:checkNb l=0) {i j:Nat} (hij:i<j) (hj:j<l.length):(l.getD i default).node<(l.getD j default).node:=by
 induction j with
 |zero=>omega
 |succ j ih=>
  have h1:=Se h (i:=j+1) (by omega) hj;simp only[Nat.add_sub_cancel] at h1;rcases AeW i j with hl|hg
  ·have:=ih hl (by omega);omega
  ·have:i=j:=by omega
   subst this;exact h1
theorem Xr {f:Nat->Bool} {N:Nat} (hm:∀i j,i<=j->j<N->f j=true->f i=true) (i j:Nat) (hj:j<=N) (h1:∀k,k<i->f k=true) (h2:∀k,j<=k->k<N->f k=false):
  (∀k,k<bs f i j->f k=true)/\(∀k,bs f i j<=k->k<N->f k=false):=by
 fun_induction bs f i j with
 |case1 i j hij hf ih=>exact ih hj (fun k hk=>hm k _ (by omega) (by omega) hf) h2
 |case2 i j hij hf ih=>
  refine ih (by omega) h1 (fun k hk hkN=>?_);cases hfk:f k with
  |false=>rfl
  |true=>exact absurd (hm _ k hk hkN hfk) (by simpa using hf)
 |case3 i j hij=>exact⟨fun k hk=>h1 k hk,fun k hk=>h2 k (by omega)⟩
theorem EJ {a b:Int}:Ha a b<0↔a<b:=by
 unfold Ha;split
 ·simp[*]
 ·split
  ·simp;omega
  ·simp;omega
theorem Kt {a b:Int}:Ha a b=0↔a=b:=by
 unfold Ha;split
 ·simp;omega
 ·split
  ·simp;omega
  ·simp;omega
theorem MC {l:List Nb} (h:checkNb l=0) (t:Int):C5 l t<=l.length/\(∀k,k<C5 l t->(l.getD k default).node<t)/\(∀k,C5 l t<=k->k<l.length->t<=(l.getD k default).node):=by
 have:=Xr (f:=fun i=>decide (KT t (l.getD i default)<0)) (N:=l.length) (by
  intro i j hij hj hf;simp only[KT,Aef,EJ] at hf ⊢;rcases AeW i j with hl|hg
  ·have:=Md h hl hj;omega
  ·have:i=j:=by omega
   subst this;exact hf) 0 l.length (AeU _) (fun k hk=>absurd hk (AeQ _)) (fun k hk hk2=>by omega)
 refine⟨Z5 _ _ _ (AeV _),fun k hk=>?_,fun k hk hk2=>?_⟩
 ·have:=this.1 k hk;simpa [KT,EJ] using this
 ·have:=this.2 k hk hk2;simpa [KT,EJ] using this
theorem CG {l:List Nb} {t:Int}:BS l t=true↔C5 l t<l.length/\(l.getD (C5 l t) default).node=t:=by
 rw[UR,KT,Kt]
theorem Zq (l:List Nb) (r:Rk) (k:Nat):Acp r (Js l k)=QT r (l.getD k default):=rfl
theorem NQ (ls:List Lk) (x:Lk):∀j,j<ls.length->HQ (ls++[x]) j=HQ ls j
 |0,h=>by
  simp only[HQ,Aec];rw[List.getElem?_append_left h]
 |j+1,h=>by
  have e:(ls++[x]).getD (j+1) default=ls.getD (j+1) default:=by
   simp only[Aec];rw[List.getElem?_append_left h]
  simp only[HQ,NQ ls x j (by omega),e]
theorem I0 {l:List Nb} (h:checkNb l=0) {b k:Nat} (hb:b<k) (hk:k<l.length):II (Js l k) (Js l b)<0↔Kv (l.getD k default) (l.getD b default)=true:=by
 have hn:=Md h hb hk;have e1:(Js l k).path=KR (l.getD k default):=rfl;have e2:(Js l b).path=KR (l.getD b default):=rfl;have e3:(Js l k).n=l.getD k default:=rfl;have e4:(Js l b).n=l.getD b default:=rfl;simp only[II,Kv,e1,e2,e3,e4,orI,Bool.or_eq_true,Aen,Aef];generalize KR (l.getD k default)=p at *;generalize KR (l.getD b default)=q at *;generalize (l.getD k default).epoch=ek at *;generalize (l.getD b default).epoch=eb at *;generalize (l.getD k default).node=nk at *;generalize (l.getD b default).node=nb at *;clear e1 e2 e3 e4;have h1:=@EJ eb ek;have h2:=@Kt eb ek;have h3:=@EJ p q;have h4:=@Kt p q;have h5:=@EJ nk nb
 repeat' split
 all_goals omega
theorem MG {l:List Nb} (h:checkNb l=0) (r:Rk):∀k,k<=l.length->match L7 l r k with
  |none=>DR l r k=[]
  |some b=>DR l r k≠[]/\HQ (DR l r k) ((DR l r k).length-1)=Js l b
 |0,_=>rfl
 |k+1,hk=>by
  have ih:=MG h r k (by omega);unfold L7 DR;rw[Zq];by_cases ho:QT r (l.getD k default)=true
  ·simp only[AeT ho];cases hr:L7 l r k with
   |none=>
    rw[hr] at ih;simp only at ih ⊢;rw[ih];exact⟨by simp,rfl⟩
   |some b=>
    rw[hr] at ih;simp only at ih ⊢;obtain⟨hne,hmin⟩:=ih;have hlen:0<(DR l r k).length:=List.length_pos_iff.2 hne;have hb:=JV hr;have e:(DR l r k++[Js l k]).length-1=(DR l r k).length-1+1:=by simp;omega
    have e2:(DR l r k++[Js l k]).getD ((DR l r k).length-1+1) default=Js l k:=by
     rw[Nat.sub_add_cancel hlen];simp[Aec]
    have key:HQ (DR l r k++[Js l k]) ((DR l r k++[Js l k]).length-1)=if Kv (l.getD k default) (l.getD b default)=true then Js l k else Js l b:=by
     rw[e,HQ,e2,NQ _ _ _ (by omega),hmin];by_cases hc:II (Js l k) (Js l b)<0
     ·rw[AeT hc,AeT ((I0 h hb (by omega)).1 hc)]
     ·rw[AeS hc,AeS (fun q=>hc ((I0 h hb (by omega)).2 q))]
    rw[key];by_cases hbt:Kv (l.getD k default) (l.getD b default)=true
    ·simp only[AeT hbt];exact⟨by simp,trivial⟩
    ·simp only[AeS hbt];exact⟨by simp,trivial⟩
  ·simp only[AeS ho];exact ih
theorem UJ {l:List Nb} (h:checkNb l=0) (r:Rk):SD l r=(L7 l r l.length).isSome:=by
 have:=MG h r l.length (AeU _);unfold SD;cases hr:L7 l r l.length with
 |none=>rw[hr] at this;simp only at this;rw[this];rfl
 |some b=>rw[hr] at this;simp only at this;simp[this.1]
theorem LF {l:List Nb} (h:checkNb l=0) (r:Rk) {b:Nat} (hb:L7 l r l.length=some b):Hb l r=Js l b:=by
 have:=MG h r l.length (AeU _);rw[hb] at this;exact this.2
theorem L6 {l:List Nb} {r:Rk}:∀{k b:Nat},L7 l r k=some b->QT r (l.getD b default)=true
 |0,b,h=>by cases h
 |k+1,b,h=>by
  unfold L7 at h
  split at h
  ·rename_i ho
   split at h
   ·injection h with h;subst h;exact ho
   ·rename_i hb;have:=L6 hb
    split at h<;>(injection h with h;subst h;first|exact ho|exact this)
  ·exact L6 h
end Go.Proofs.P
end
section
namespace Go.Proofs.P
open Go Go.Sx
set_option maxRecDepth 4000
attribute [local irreducible] VR VC thenQ blockQ

theorem Mv (l:List Nb):FnS Tryz.prog 39 [AD (nbs l)] [] (AB (decide ((l.length:Int)<=40))) []:=by
 refine fb Tryz.func39 (by kernel_rfl) rfl Tryz.ntmps39 Tryz.results39 rfl rfl rfl rfl fun E hS=>?_
 repeat'(first|refine sB ?_|refine Aj rfl (by exact tt0) ?_|fail)
 all_goals exact As Ab rfl rfl
end Go.Proofs.P
end
section
namespace Go.Proofs.P
open Go Go.Sx
theorem TN {r:Rk} (h:rkErr r=0):rkErr (Hp r)=0:=by
 unfold Hp
 split
 ·rename_i hn;obtain⟨h1,h2,h3,h4⟩:=Ps h;refine TM h1 h2 ?_ ?_
  ·simp only[FU] at h3 ⊢;exact h3
  ·simp only[EX] at h4 ⊢;rw[AeS hn.2] at h4 ⊢
   split at h4
   ·simp only[Aen,Aef] at h4 ⊢;simp only[if_true,decide_true,Bool.true_and];exact h4.2
   ·simp only[Aen,Aef] at h4;simp only[if_true,decide_true,Bool.true_and,Bool.or_eq_true,Aef]
    left;omega
 ·exact h
theorem Wr {r:Rk} (h:rkErr r=0):(0<=r.node/\r.node<=31)/\0<=r.epoch/\r.epoch<=65535:=by
 obtain⟨h1,h2,_,_⟩:=Ps h;simp only[D7,C0] at h1 h2;exact⟨h1,h2⟩
structure Et (r:Rk) (fr e k c:Int):Prop where
 right:rkErr r=0
 Mc:r.node≠0
 fr:0<=fr/\fr<=31/\fr≠r.node
 adv:(1<=e/\e<=65535)/\0<=k/\k<=65534
 cost:1<=c/\c<=1023
 Xa:r.epoch<e\/(e=r.epoch/\k<r.least)
 path:k+c<65535
theorem KB {r:Rk} {fr e k c:Int} (h:Et r fr e k c):Hc r fr e k c=({BN r e with parent:=fr,heard:=k,rank:=k+c},0):=by
 have ha:Tf e k=true:=by rw[E2];exact h.adv
 have hn:D7 fr=true:=by simp only[D7,C0];exact⟨h.fr.1,h.fr.2.1⟩
 have hc:inR c 1 1023=true:=by rw[C0];exact h.cost
 have hf:KZ r e k=true:=by
  have:=h.Xa;simp only[KZ,h.right,ha,Aen,Bool.or_eq_true,Aef,ne_eq];exact⟨⟨⟨trivial,h.Mc⟩,trivial⟩,this⟩
 unfold Hc;rw[AeS (by simp[h.right]),AeS (by simp[ha,hn,hc,h.fr.2.2]),AeS (by simp[hf]),AeS (by have:=h.path;omega)]
theorem XA (r:Rk) (fr e k c:Int):Et r fr e k c\/(Hc r fr e k c).2≠0:=by
 unfold Hc
 split
 ·right;decide
 ·rename_i h1
  split
  ·right;decide
  ·rename_i h2
   split
   ·right;decide
   ·rename_i h3
    split
    ·right;decide
    ·rename_i h4
     left
     simp only[ne_eq,Aeo] at h1;simp only[Bool.not_eq_false,Aen,Aef,E2,C0,D7] at h2;simp only[Bool.not_eq_false,KZ,Aen,Aef,Bool.or_eq_true] at h3;exact⟨h1,h3.1.1.2,⟨h2.1.1.1.1,h2.1.1.1.2,h2.1.1.2⟩,h2.1.2,h2.2,h3.2,by omega⟩
def Cl (r:Rk) (fr e k c:Int):Rk:={BN r e with parent:=fr,heard:=k,rank:=k+c}
theorem GV {r:Rk} {e:Int} (h:r.epoch<=e):(BN r e).epoch=e:=by
 unfold BN;split
 ·rfl
 ·omega
theorem Iu {r:Rk} {fr e k c:Int} (h:Et r fr e k c):rkErr (Cl r fr e k c)=0:=by
 obtain⟨h1,h2,h3,h4⟩:=Ps h.right;have hfe:=h.Xa;have ha:=h.adv;have hc:=h.cost;have hp:=h.path;have hfr:=h.fr;have hnr:=h.Mc;have hep:(BN r e).epoch=e:=GV (by omega);have hnode:(BN r e).node=r.node:=by unfold BN;split<;>rfl
 have hls:k<(BN r e).least/\inR (BN r e).least 1 65535=true:=by
  unfold BN
  split
  ·exact⟨by dsimp only;omega,by dsimp only;decide⟩
  ·simp only[FU,Bool.or_eq_true,Aen,Aef] at h3;have:inR r.least 1 65535=true:=h3.resolve_right (fun q=>hnr q.1);exact⟨by omega,this⟩
 refine TM ?_ ?_ ?_ ?_
 ·show D7 (BN r e).node=true;rw[hnode];exact h1
 ·show inR (BN r e).epoch 0 65535=true;rw[hep,C0];omega
 ·simp only[FU,Cl,hls.2,Bool.true_or]
 ·simp only[EX,Cl,hnode,hep];rw[AeS hnr,AeS (by omega)];simp only[Aen,Aef,D7,C0,ne_eq];have:=hls.1;omega
theorem Vs {r:Rk} {fr e k c:Int} (h:Et r fr e k c):Et (Cl r fr e k c) fr e k c:=by
 have hfe:=h.Xa;have hnode:(BN r e).node=r.node:=by unfold BN;split<;>rfl
 have hep:(BN r e).epoch=e:=GV (by omega);refine⟨Iu h,?_,?_,h.adv,h.cost,.inr ⟨hep.symm,?_⟩,h.path⟩
 ·show(BN r e).node≠0;rw[hnode];exact h.Mc
 ·refine⟨h.fr.1,h.fr.2.1,?_⟩;show fr≠(BN r e).node;rw[hnode];exact h.fr.2.2
 ·show k<(BN r e).least;have ha:=h.adv;unfold BN
  split
  ·dsimp only;omega
  ·omega
theorem MQ {r:Rk} {fr e k c:Int} (h:Et r fr e k c):Cl (Cl r fr e k c) fr e k c=Cl r fr e k c:=by
 have hfe:=h.Xa;have hep:(BN r e).epoch=e:=GV (by omega);have:BN (Cl r fr e k c) e=Cl r fr e k c:=by
  unfold BN;rw[AeS];show ¬(BN r e).epoch<e;omega
 calc Cl (Cl r fr e k c) fr e k c={BN (Cl r fr e k c) e with parent:=fr,heard:=k,rank:=k+c}:=rfl
  _={Cl r fr e k c with parent:=fr,heard:=k,rank:=k+c}:=by rw[this]
  _=Cl r fr e k c:=rfl
theorem IP {r:Rk} {e k c:Int} (hr:rkErr r=0) (hp:r.parent≠-1) (ha:Tf e k=true) (hc:inR c 1 1023=true):(update' r e k c).2=0 /\
  ((e<r.epoch/\(update' r e k c).1=r)\/(r.epoch<=e/\Et r r.parent e k c/\(update' r e k c).1=Cl r r.parent e k c)\/(r.epoch<=e/\(update' r e k c).1=Hp (BN r e))):=by
 unfold update';rw[AeS (by simp[hr]),AeS (by simp[ha,hc]),AeS hp]
 split
 ·exact⟨rfl,.inl ⟨‹_›,rfl⟩⟩
 ·rename_i he;rcases XA r r.parent e k c with h|h
  ·rw[KB h];exact⟨rfl,.inr (.inl ⟨by omega,h,rfl⟩)⟩
  ·rw[AeS h];exact⟨rfl,.inr (.inr ⟨by omega,rfl⟩)⟩
theorem FI {r:Rk} (h:rkErr r=0):(Hp r).parent=-1:=by
 unfold Hp
 split
 ·rfl
 ·rename_i hn;obtain⟨_,_,_,h4⟩:=Ps h;have h0:r.node=0:=by
   by_cases hz:r.node=0
   ·exact hz
   ·exact absurd ⟨h,hz⟩ hn
  unfold EX at h4;rw[AeT h0] at h4;simp only[Aen,Aef] at h4;exact h4.1.1.1.2
theorem Fq {l:List Nb} (h:checkNb l=0) {k:Nat} (hk:k<l.length):inR (I8 (l.getD k default).att (l.getD k default).ack) 1 1023=true:=by
 have⟨_,h1,h2⟩:=Cu ((BK h).2 k hk);generalize (l.getD k default).att=a at *;generalize (l.getD k default).ack=b at *;rw[C0];unfold I8
 split
 ·omega
 ·split
  ·omega
  ·split
   ·omega
   ·have hb:0<b:=by omega
    have h3:1<=(128*a+b-1)/b:=by
     rw[Int.le_ediv_iff_mul_le hb];omega
    omega
theorem C9 {l:List Nb} (h:checkNb l=0) {k:Nat} (hk:k<l.length):Tf (l.getD k default).epoch (l.getD k default).rank=true/\0<=(l.getD k default).node/\(l.getD k default).node<=31:=by
 have⟨h0,_,_⟩:=Cu ((BK h).2 k hk);simp only[DF,Aen,C0] at h0;rw[E2];exact⟨⟨h0.1.1.2,h0.1.2⟩,h0.1.1.1⟩
theorem ZQ {l:List Nb} (h:checkNb l=0) {b:Nat} (hb:b<l.length):BS l (l.getD b default).node=true/\C5 l (l.getD b default).node=b:=by
 obtain⟨h1,h2,h3⟩:=MC h (l.getD b default).node;have hge:C5 l (l.getD b default).node<=b:=by
  rcases AeW b (C5 l (l.getD b default).node) with hl|hg
  ·have:=h2 b hl;omega
  ·exact hg
 have heq:C5 l (l.getD b default).node=b:=by
  rcases AeW (C5 l (l.getD b default).node) b with hl|hg
  ·have:=Md h hl hb;have:=h3 _ (AeU _) (by omega);omega
  ·omega
 exact⟨by rw[CG,heq];exact⟨hb,rfl⟩,heq⟩
theorem HM {l:List Nb} {r:Rk}:∀{k b:Nat},L7 l r k=some b->∀i,i<k->QT r (l.getD i default)=true->Kv (l.getD i default) (l.getD b default)=false
 |0,b,h,_,_,_=>by cases h
 |k+1,b,h,i,hi,hok=>by
  unfold L7 at h;by_cases ho:QT r (l.getD k default)=true
  ·rw[AeT ho] at h;cases hr:L7 l r k with
   |none=>
    rw[hr] at h;injection h with h;subst h
    by_cases hik:i=k
    ·subst hik;simp[Kv]
    ·exfalso;have:∀j,L7 l r j=none->∀i,i<j->QT r (l.getD i default)=false:=by
      intro j
      induction j with
      |zero=>intro _ i hi;omega
      |succ j ih=>
       intro hn i hi;unfold L7 at hn;by_cases hoj:QT r (l.getD j default)=true
       ·rw[AeT hoj] at hn
        split at hn
        ·cases hn
        ·split at hn<;>cases hn
       ·rw[AeS hoj] at hn;by_cases hij:i=j
        ·subst hij;simpa using hoj
        ·exact ih hn i (by omega)
     rw[this k hr i (by omega)] at hok;cases hok
   |some b0=>
    rw[hr] at h;simp only at h
    split at h
    ·rename_i hbt;injection h with h;subst h
     by_cases hik:i=k
     ·subst hik;simp[Kv]
     ·have h2:=HM hr i (by omega) hok;simp only[Kv,Bool.or_eq_true,Aen,Aef] at hbt;simp only[Kv,Bool.or_eq_false_iff,Bool.and_eq_false_iff,Aeg] at h2 ⊢;omega
    ·rename_i hbt;injection h with h;subst h
     by_cases hik:i=k
     ·subst hik;simpa using hbt
     ·exact HM hr i (by omega) hok
  ·rw[AeS ho] at h;by_cases hik:i=k
   ·subst hik;exact absurd hok ho
   ·exact HM h i (by omega) hok
end Go.Proofs.P
end
section
namespace Go.Proofs.P
open Go Go.Sx
set_option maxRecDepth 4000
attribute [local irreducible] VR VC thenQ blockQ
abbrev AcB (l:List Nb) (s:Rk) (b:Nat):Rk×Int:=update' s (l.getD b default).epoch (l.getD b default).rank (I8 (l.getD b default).att (l.getD b default).ack)
abbrev Hz (l:List Nb) (s:Rk) (b:Nat):Rk:=Cl s (l.getD b default).node (l.getD b default).epoch (l.getD b default).rank (I8 (l.getD b default).att (l.getD b default).ack)
abbrev MU (l:List Nb) (s:Rk) (b:Nat):Prop:=Et s (l.getD b default).node (l.getD b default).epoch (l.getD b default).rank (I8 (l.getD b default).att (l.getD b default).ack)
theorem GU (r:Rk) (e:Int):(BN r e).node=r.node:=by unfold BN;split<;>rfl
theorem NU (r:Rk):(Hp r).node=r.node:=by unfold Hp;split<;>rfl
theorem JK {l:List Nb} {s:Rk} (h:s.parent<0):CF l s=s:=by unfold CF;rw[AeS (by omega)]
theorem LX {l:List Nb} (hl:checkNb l=0) {s:Rk} {b:Nat} (hb:b<l.length) (h:s.parent=(l.getD b default).node):CF l s=(AcB l s b).1:=by
 obtain⟨h1,h2⟩:=ZQ hl hb;have:=(C9 hl hb).2.1;unfold CF;rw[AeT (by omega),h,AeT h1,h2]
theorem KJ {q:Rk} {fr e k c:Int} (h:Et q fr e k c):update' (Cl q fr e k c) e k c=(Cl q fr e k c,0):=by
 have h2:=Vs h;have hp:(Cl q fr e k c).parent=fr:=rfl;have hfe:=h.Xa;have hep:(Cl q fr e k c).epoch=e:=GV (by omega);have ha:Tf e k=true:=by rw[E2];exact h.adv
 have hc:inR c 1 1023=true:=by rw[C0];exact h.cost
 have hfr:=h.fr;unfold update';rw[AeS (by simp[h2.right]),AeS (by simp[ha,hc]),AeS (by rw[hp];omega),AeS (by rw[hep];omega),hp,KB h2,AeT rfl];exact Prod.ext (MQ h) rfl
theorem HH {l:List Nb} (hl:checkNb l=0) {s:Rk} {b:Nat} (hb:b<l.length) (h:MU l s b):CF l (Hz l s b)=Hz l s b:=by
 rw[LX hl hb rfl];exact congrArg Prod.fst (KJ h)
theorem Hi {l:List Nb} (hl:checkNb l=0) {r:Rk} (hr:rkErr r=0) (hn:r.node≠0):rkErr (CF l r)=0/\(CF l r).node=r.node /\
  (((CF l r).parent=-1)\/CF l r=r\/∃b,b<l.length/\r.parent=(l.getD b default).node/\MU l r b/\CF l r=Hz l r b):=by
 by_cases hp:r.parent<0
 ·rw[JK hp];exact⟨hr,rfl,.inr (.inl rfl)⟩
 by_cases hf:BS l r.parent=true
 ·obtain⟨hb,he⟩:=CG.1 hf;obtain⟨ha,_⟩:=C9 hl hb;rw[LX hl hb he.symm];obtain⟨_,h⟩:=IP hr (by omega) ha (Fq hl hb);rcases h with⟨_,h⟩|⟨_,hc,h⟩|⟨_,h⟩
  ·rw[h];exact⟨hr,rfl,.inr (.inl rfl)⟩
  ·rw[h];have hc':MU l r (C5 l r.parent):=by unfold MU;rw[he];exact hc
   refine⟨Iu hc,GU _ _,.inr (.inr ⟨_,hb,he.symm,hc',?_⟩)⟩;unfold Hz;rw[he]
  ·rw[h];rw[E2] at ha;have hb':=QL hr ha.1 (show r.parent≠-1 by omega);exact⟨TN hb',by rw[NU,GU],.inl (FI hb')⟩
 ·have e:CF l r=Hp r:=by unfold CF;rw[AeT (by omega),AeS hf]
  rw[e];exact⟨TN hr,NU _,.inl (FI hr)⟩
theorem Pe {l:List Nb} (hl:checkNb l=0) {r:Rk} (hr:rkErr r=0) (hn:r.node≠0):CF l (CF l r)=CF l r:=by
 obtain⟨_,_,h⟩:=Hi hl hr hn;rcases h with h|h|⟨b,hb,_,hc,h⟩
 ·exact JK (by omega)
 ·rw[h];exact h
 ·rw[h];exact HH hl hb hc
theorem wrap_small {a:Int} (h:-9223372036854775808<=a/\a<=9223372036854775807):IntKind.i64.wrap a=a:=wrap_i64 h
theorem PA {l:List Nb} (hl:checkNb l=0) {b:Nat} (hb:b<l.length):KR (l.getD b default)=(l.getD b default).rank+I8 (l.getD b default).att (l.getD b default).ack:=by
 have h1:=(C9 hl hb).1;have h2:=Fq hl hb;rw[E2] at h1;rw[C0] at h2;exact wrap_small (by omega)
theorem OE {l:List Nb} (hl:checkNb l=0) {s:Rk} {b:Nat} (hb:b<l.length) (h:QT s (l.getD b default)=true):MU l s b:=by
 have h1:=C9 hl hb;have h2:=Fq hl hb;have h3:=PA hl hb;rw[E2] at h1;rw[C0] at h2;simp only[QT,KZ,Aen,Bool.or_eq_true,Aef,ne_eq] at h;exact⟨h.1.2.1.1.1,h.1.2.1.1.2,⟨h1.2.1,h1.2.2,h.1.1⟩,h1.1,h2,h.1.2.2,by omega⟩
theorem Ir {l:List Nb} (hl:checkNb l=0) {s:Rk} {m:Int} (h:LW l s m=true):∃b,L7 l s l.length=some b/\b<l.length/\QT s (l.getD b default)=true/\MU l s b/\Is l s m=Hz l s b /\
  (s.parent=-1\/s.epoch<(l.getD b default).epoch\/IntKind.i64.wrap (KR (l.getD b default)+m)<s.rank):=by
 have h':=h;unfold LW at h;simp only[Aen,Bool.or_eq_true,Aef] at h;rw[UJ hl] at h;obtain⟨b,hb⟩:=Ae1.1 h.1;rw[LF hl _ hb] at h;have hbl:=JV hb;have hok:=L6 hb;have hc:=OE hl hbl hok;refine⟨b,hb,hbl,hok,hc,?_,?_⟩
 ·unfold Is;rw[AeT h',LF hl _ hb];exact congrArg Prod.fst (KB hc)
 ·rcases h.2 with(h2|h2)|h2
  ·exact .inl h2
  ·exact .inr (.inl h2)
  ·exact .inr (.inr h2)
theorem RH {l:List Nb} (hl:checkNb l=0) {s:Rk} {m:Int} (hm:0<=m/\m<=65535) {b:Nat} (hb:L7 l s l.length=some b):LW l (Hz l s b) m=false:=by
 have hbl:=JV hb;have hok:=L6 hb;have hc:=OE hl hbl hok;cases ht:LW l (Hz l s b) m with
 |false=>rfl
 |true=>
  exfalso;obtain⟨b',hb',hbl',hok',hc',_,h⟩:=Ir hl ht;have hep:(Hz l s b).epoch=(l.getD b default).epoch:=GV (by have:=hc.Xa;omega);have hfe:=hc.Xa;have hfe':=hc'.Xa;have hok2:QT s (l.getD b' default)=true:=by
   simp only[QT,Aen,Aef,ne_eq] at hok' ⊢;refine⟨⟨?_,?_⟩,hok'.2⟩
   ·have:=hok'.1.1;rw[show(Hz l s b).node=s.node from GU _ _] at this;exact this
   ·simp only[KZ,Aen,Bool.or_eq_true,Aef,ne_eq];refine⟨⟨⟨hc.right,hc.Mc⟩,(C9 hl hbl').1⟩,?_⟩;by_cases he:s.epoch<(l.getD b default).epoch
    ·left;omega
    ·have hls:(Hz l s b).least=s.least:=by
      show(BN s _).least=s.least;unfold BN;rw[AeS he]
     omega
  have hnb:=HM hb b' hbl' hok2;simp only[Kv,Bool.or_eq_false_iff,Bool.and_eq_false_iff,Aeg] at hnb;have hp:(Hz l s b).parent=(l.getD b default).node:=rfl;have hrk:(Hz l s b).rank=KR (l.getD b default):=(PA hl hbl).symm;have h0:=(C9 hl hbl).2.1;have h1:=C9 hl hbl';have h2:=Fq hl hbl';have h3:=PA hl hbl';rw[E2] at h1;rw[C0] at h2;simp only[QT,Aen,Aef] at hok2;rw[wrap_small (by omega)] at h;omega
structure Acb (l:List Nb) (r a:Rk) (m:Int):Prop where
 right:rkErr a=0
 node:a.node=r.node
 CF:CF l a=a
 take:LW l a m=false
theorem TB {l:List Nb} (hl:checkNb l=0) {r:Rk} (hr:rkErr r=0) (hn:r.node≠0) {m:Int} (hm:0<=m/\m<=65535):Acb l r (Is l (CF l r) m) m:=by
 obtain⟨h1,h2,_⟩:=Hi hl hr hn;by_cases ht:LW l (CF l r) m=true
 ·obtain⟨b,hb,hbl,hok,hc,he,_⟩:=Ir hl ht;rw[he];exact⟨Iu hc,(GU _ _).trans h2,HH hl hbl hc,RH hl hm hb⟩
 ·have e:Is l (CF l r) m=CF l r:=by unfold Is;rw[AeS ht]
  rw[e];exact⟨h1,h2,Pe hl hr hn,by simpa using ht⟩
abbrev JZ (p:Nb->Bool):List DV->DV->Prop:=fun ds r=>∃x:Nb,ds=[.agg x.enc]/\r=.d (.bool (p x))
def Fl (l:List Nb) (p:Nb->Bool):Option Nat:=(List.range l.length).find? fun i=>p (l.getD i default)
theorem UB (l:List Nb) (p:Nb->Bool):FnS Tryz.prog 117 [AD (nbs l),.clo (JZ p)] [] (AI (oI (Fl l p))) []:=by
 refine fb Tryz.func117 (by kernel_rfl) rfl Tryz.ntmps117 Tryz.results117 rfl rfl rfl rfl fun E hS=>?_
 refine BP (t:=0) rfl fun hb=>?_
 repeat'(first|refine sC ?_|refine Aj rfl (by exact tt0) ?_|fail)
 refine AA (ι:=Nat) (fun k=>AS [(0,AD (nbs l)),(1,.clo (JZ p)),(7,AI l.length),(8,AI k)] []) (fun k=>k<=l.length/\∀i,i<k->p (l.getD i default)=false) (fun k=>l.length-k) 0 ⟨AeV _,fun i hi=>absurd hi (AeQ _)⟩ ?_ ?_
 ·exact B4 ⟨rfl,rfl,rfl,rfl,trivial⟩ trivial rfl
 ·intro k hk
  repeat'(first|refine sC ?_|refine Aj rfl (by first|exact tt0|omega) ?_|(refine gC ?_;first|refine EV (⟨_,rfl,rfl⟩) (gk rfl) rfl rfl rfl rfl ?_)|(refine gI ?_;first|refine Aq (gk rfl) rfl rfl rfl rfl rfl (by omega) rfl ?_)|(refine gD ?_;first|(refine Ay rfl ?_ ?_<;>intro h<;>have hq:=h<;>(try simp only[hqs] at hq)))|fail)
  ·refine AG Ab rfl ?_;rw[Fl,W7 hk.2 (by omega) h];rfl
  ·refine⟨k+1,⟨by omega,fun i hi=>?_⟩,by omega,B4 ⟨rfl,rfl,rfl,rfl,trivial⟩ trivial rfl⟩;by_cases hik:i<k
   ·exact hk.2 i hik
   ·have:i=k:=by omega
    subst this;exact h
  ·refine AG Ab rfl ?_;have:k=l.length:=by omega
   subst this;rw[Fl,UX hk.2];rfl
def Rk.enc (r:Rk):List D:=[.int .i64 r.node,.int .i64 r.epoch,.int .i64 r.parent,.int .i64 r.heard,.int .i64 r.rank,.int .i64 r.least]
end Go.Proofs.P
end
