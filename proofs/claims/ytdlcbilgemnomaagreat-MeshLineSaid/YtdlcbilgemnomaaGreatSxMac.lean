/-
  What functions of the program hand back, and plain laws on that. No condition.
-/
import Derived.Test.YtdlcbilgemnomaaGreatSxMab
import Derived.Test.YtdlcbilgemnomaaGreatSxLibB
set_option linter.unusedSimpArgs false
set_option linter.unusedVariables false
section
namespace Go.Proofs.P
open Go Go.Sx
set_option maxRecDepth 4000
attribute [local irreducible] VR VC thenQ blockQ
theorem L6 (r:Rk) (fr e k c:Int):FnS Tryz.prog 190 [rkA r,AI fr,AI e,AI k,AI c] [] (.tup [rkA (Hh r fr e k c).1,AI (Hh r fr e k c).2]) []:=by
 refine fb Tryz.func190 (by kernel_rfl) rfl Tryz.ntmps190 Tryz.results190 rfl rfl rfl rfl fun E hS=>?_
 repeat'(first|refine sC ?_|refine Ak rfl (by first|exact tt0|omega) ?_|(refine gC ?_;first|refine AN (Dq r) (gk rfl) rfl rfl rfl rfl rfl rfl ?_|refine AN (Fj _) (gk rfl) rfl rfl rfl rfl rfl rfl ?_|refine AN (Ni _ _) (gk rfl) rfl rfl rfl rfl rfl rfl ?_|refine AN (DB _ _ _) (gk rfl) rfl rfl rfl rfl rfl rfl ?_|refine AN (OU r _ _) (gk rfl) rfl rfl rfl rfl rfl rfl ?_|refine AN (L3 r _) (gk rfl) rfl rfl rfl rfl rfl rfl ?_)|(refine Ax rfl ?_ ?_<;>intro h<;>have hq:=h<;>(try simp only[Agl,Agm,Int.not_lt,Int.not_le,ne_eq,Agu,Bool.not_eq_true',Bool.not_eq_false',C0,Ts,Fa,Sq] at hq))|(refine gD ?_;first|refine Ai rfl ?_|(refine Ay rfl ?_ ?_<;>intro h<;>have hq:=h<;>(try simp only[Agl,Agm,Int.not_lt,Int.not_le,ne_eq,Agu,Bool.not_eq_true',Bool.not_eq_false',C0,Ts,Fa,Sq] at hq)))|fail)
 all_goals try refine Ee Ab rfl rfl rfl rfl rfl ?_ ?_
 all_goals try refine Ee Ab rfl rfl rfl rfl rfl ?_ ?_
 all_goals unfold Hh
 all_goals repeat' split
 all_goals first|rfl|(exfalso;simp_all;done)|(exfalso;omega)|trace_state
def update' (r:Rk) (e k c:Int):Rk×Int:=
 if rkErr r≠0 then(rkZ,1)
 else if(Uc e k&&inR c 1 1023)=false then(rkZ,2)
 else if r.parent=-1 then(rkZ,12)
 else if e<r.epoch then(r,0)
 else if(Hh r r.parent e k c).2=0 then((Hh r r.parent e k c).1,0)
 else(Hu (BP r e),0)
theorem PK (r:Rk) (e k c:Int):FnS Tryz.prog 185 [rkA r,AI e,AI k,AI c] [] (.tup [rkA (update' r e k c).1,AI (update' r e k c).2]) []:=by
 refine fb Tryz.func185 (by kernel_rfl) rfl Tryz.ntmps185 Tryz.results185 rfl rfl rfl rfl fun E hS=>?_
 repeat'(first|refine sC ?_|refine Ak rfl (by exact tt0) ?_|(refine gC ?_;first|refine AN (Dq r) (gk rfl) rfl rfl rfl rfl rfl rfl ?_|refine AN (Ni _ _) (gk rfl) rfl rfl rfl rfl rfl rfl ?_|refine AN (DB _ _ _) (gk rfl) rfl rfl rfl rfl rfl rfl ?_|refine AN (L6 r _ _ _ _) (gk rfl) rfl rfl rfl rfl rfl rfl ?_|refine AN (L3 r _) (gk rfl) rfl rfl rfl rfl rfl rfl ?_|refine AN (Ol (BP r e)) (gk rfl) rfl rfl rfl rfl rfl rfl ?_)|(refine Ax rfl ?_ ?_<;>intro h<;>have hq:=h<;>(try simp only[Agl,Agm,Int.not_lt,Int.not_le,ne_eq,Agu,Bool.not_eq_true',Bool.not_eq_false',C0,Ts,Fa,Sq] at hq))|(refine gD ?_;first|refine Ai rfl ?_|(refine Ay rfl ?_ ?_<;>intro h<;>have hq:=h<;>(try simp only[Agl,Agm,Int.not_lt,Int.not_le,ne_eq,Agu,Bool.not_eq_true',Bool.not_eq_false',C0,Ts,Fa,Sq] at hq)))|fail)
 all_goals try refine Ee Ab rfl rfl rfl rfl rfl ?_ ?_
 all_goals unfold update'
 all_goals repeat' split
 all_goals first|rfl|(exfalso;simp_all;done)|(exfalso;omega)|trace_state
def Jl (a k:Int):Int:=
 if a<0\/k<0\/a<k then 0 else if a<4 then 256 else if k=0 then 1023 else min ((128*a+k-1)/k) 1023
theorem OZ (a k:Int) (h:a<=2147483648):FnS Tryz.prog 186 [.agg [.d (.int .i64 a),.d (.int .i64 k)]] [] (AI (Jl a k)) []:=by
 refine fb Tryz.func186 (by kernel_rfl) rfl Tryz.ntmps186 Tryz.results186 rfl rfl rfl rfl fun E hS=>?_
 repeat'(first|refine sC ?_|refine Ak rfl (by first|exact tt0|omega) ?_|(refine Ax rfl ?_ ?_<;>intro h<;>have hq:=h<;>(try simp only[hqs] at hq))|(refine gD ?_;first|refine Ai rfl ?_|(refine Ay rfl ?_ ?_<;>intro h<;>have hq:=h<;>(try simp only[hqs] at hq)))|fail)
 all_goals refine AG Ab rfl ?_
 all_goals unfold Jl
 all_goals repeat' split
 all_goals first|rfl|(exfalso;simp_all;done)|(exfalso;omega)|trace_state
def Hf (a b:Int):Int:=if a<b then -1 else if b<a then 1 else 0
theorem GM (a:Int):FnS Tryz.prog 209 [AI a] [] (AB false) []:=by
 refine fb Tryz.func209 (by kernel_rfl) rfl Tryz.ntmps209 Tryz.results209 rfl rfl rfl rfl fun E hS=>?_
 repeat'(first|refine sB ?_|refine Ak rfl (by exact tt0) ?_|fail)
 all_goals exact Aw Ab rfl (by simp)
theorem GS (a b:Int):FnS Tryz.prog 154 [AI a,AI b] [] (AI (Hf a b)) []:=by
 refine fb Tryz.func154 (by kernel_rfl) rfl Tryz.ntmps154 Tryz.results154 rfl rfl rfl rfl fun E hS=>?_
 repeat'(first|refine sB ?_|refine Ak rfl (by exact tt0) ?_|(refine gC ?_;first|refine AN (GM _) (gk rfl) rfl rfl rfl rfl rfl rfl ?_)|(refine gD ?_;first|refine Ah rfl ?_|(refine Ay rfl ?_ ?_<;>intro h<;>have hq:=h<;>(try simp only[hqs] at hq)))|fail)
 all_goals refine AG Ab rfl ?_
 all_goals unfold Hf
 all_goals repeat' split
 all_goals first|rfl|(exfalso;simp_all;done)|(exfalso;omega)|trace_state
def orI:List Int->Int
 |[]=>0
 |x :: l=>if x≠0 then x else orI l
abbrev ints (l:List Int):D:=Iv (fun x=>[.int .i64 x]) 1 l
theorem Kh:∀(l:List Int) (k:Nat),(∀i,i<k->l.getD i 0=0)->k<=l.length->orI l=orI (l.drop k)
 |l,0,_,_=>rfl
 |[],k+1,_,h=>absurd h (by simp)
 |x :: l,k+1,h,hk=>by
  have h0:x=0:=h 0 (by omega);rw[List.drop_succ_cons,<-Kh l k (fun i hi=>h (i+1) (by omega)) (by simpa using hk)];simp[orI,h0]
theorem P9 (l:List Int):FnS Tryz.prog 153 [AD (ints l)] [] (AI (orI l)) []:=by
 refine fb Tryz.func153 (by kernel_rfl) rfl Tryz.ntmps153 Tryz.results153 rfl rfl rfl rfl fun E hS=>?_
 refine B9 (t:=0) rfl fun hb=>?_
 repeat'(first|refine sC ?_|refine Ak rfl (by exact tt0) ?_|fail)
 refine AK (ι:=Nat) (fun k=>AS [(3,AI 0),(6,AD (ints l)),(7,AI l.length),(8,AI k)] []) (fun k=>k<=l.length/\∀i,i<k->l.getD i 0=0) (fun k=>l.length-k) 0 ⟨Ag1 _,fun i hi=>absurd hi (AgW _)⟩ ?_ ?_
 ·exact Ck ⟨rfl,rfl,rfl,rfl,trivial⟩ trivial rfl
 ·intro k hk
  repeat'(first|refine sC ?_|refine Ak rfl (by first|exact tt0|omega) ?_|(refine gI ?_;first|refine Au (gk rfl) rfl rfl rfl rfl rfl (by omega) rfl ?_)|(refine gD ?_;first|(refine Ay rfl ?_ ?_<;>intro h<;>have hq:=h<;>(try simp only[hqs] at hq)))|fail)
  ·refine AG Ab rfl ?_;rw[Kh l k hk.2 hk.1,List.drop_eq_getElem_cons (by omega),orI,AgZ]
   ·simp[Agi];rw[Agr (by omega)];rfl
   ·rw[Agi,Agr (by omega)] at hq;exact hq
  ·refine⟨k+1,⟨by omega,fun i hi=>?_⟩,by omega,Ck ⟨rfl,rfl,rfl,rfl,trivial⟩ trivial rfl⟩;by_cases hik:i<k
   ·exact hk.2 i hik
   ·have:i=k:=by omega
    subst this;exact hq
  ·refine AG Ab rfl ?_;rw[Kh l k hk.2 hk.1,List.drop_of_length_le (by omega)];rfl
def Nb.cs (x:Nb):List C:=[.d (.int .i64 x.node),.d (.int .i64 x.epoch),.d (.int .i64 x.rank),.d (.int .i64 x.slot),.d (.int .i64 x.att),.d (.int .i64 x.ack)]
abbrev nbA (x:Nb):AV:=.agg x.cs
theorem TI (x:Nb) (t:Int):FnS Tryz.prog 251 [nbA x,AI t] [] (AI (Hf x.node t)) []:=by
 refine fb Tryz.func251 (by kernel_rfl) rfl Tryz.ntmps251 Tryz.results251 rfl rfl rfl rfl fun E hS=>?_
 repeat'(first|refine sB ?_|refine Ak rfl (by exact tt0) ?_|(refine gC ?_;first|refine AN (GS _ _) (gk rfl) rfl rfl rfl rfl rfl rfl ?_)|fail)
 all_goals exact AG Ab rfl rfl
def bs (f:Nat->Bool) (i j:Nat):Nat:=if i<j then(if f ((i+j)/2) then bs f ((i+j)/2+1) j else bs f i ((i+j)/2)) else i
termination_by j-i
decreasing_by all_goals omega
def Lb (t:Int) (x:Nb):Int:=Hf x.node t
def C8 (l:List Nb) (t:Int):Nat:=bs (fun i=>decide (Lb t (l.getD i default)<0)) 0 l.length
theorem Abh (f:Nat->Bool) (i j:Nat) (h:i<=j):bs f i j<=j:=by
 fun_induction bs f i j with
 |case1 i j hij hf ih=>exact ih (by omega)
 |case2 i j hij hf ih=>exact Aha (ih (by omega)) (by omega)
 |case3=>exact h
def BY (l:List Nb) (t:Int):Bool:=decide (C8 l t<l.length)&&decide (Lb t (l.getD (C8 l t) default)=0)
abbrev VS:List DV->DV->Prop:=fun ds r=>∃(x:Nb) (t:Int),ds=[.agg x.enc,.d (.int .i64 t)]/\r=.d (.int .i64 (Hf x.node t))
theorem PS (l:List Nb) (t:Int) (hl:l.length<=1000000):FnS Tryz.prog 250 [AD (nbs l),AI t,.clo VS] [] (.tup [AI (C8 l t),AB (BY l t)]) []:=by
 refine fb Tryz.func250 (by kernel_rfl) rfl Tryz.ntmps250 Tryz.results250 rfl rfl rfl rfl fun E hS=>?_
 repeat'(first|refine sC ?_|refine Ak rfl (by exact tt0) ?_|fail)
 refine AK (ι:=Nat×Nat) (fun p=>AS [(0,AD (nbs l)),(1,AI t),(2,.clo VS),(8,AI l.length),(9,AI p.1),(10,AI p.2)] [])
  (fun p=>p.1<=p.2/\p.2<=l.length/\bs (fun i=>decide (Lb t (l.getD i default)<0)) p.1 p.2=C8 l t) (fun p=>p.2-p.1) (0,l.length) ⟨Ag1 _,Ag0 _,rfl⟩ ?_ ?_
 ·exact Ck ⟨rfl,rfl,rfl,rfl,rfl,rfl,trivial⟩ trivial rfl
 ·rintro⟨i,j⟩ ⟨h1,h2,h3⟩;dsimp only at h1 h2 h3 ⊢
  repeat'(first|refine sC ?_|refine Ak rfl (by first|exact tt0|omega) ?_|(refine gC ?_;first|refine E2 (⟨_,_,rfl,rfl⟩) (gk rfl) rfl rfl rfl rfl ?_)|(refine gI ?_;first|refine Au (gk rfl) rfl rfl rfl rfl rfl (by omega) rfl ?_|refine DA (gk rfl) rfl rfl rfl rfl (by omega) rfl ?_)|(refine gV ?_;first|refine A4 (gk rfl) rfl ⟨_,rfl⟩ rfl (by first|exact wrap_i64 (by omega)|exact wrap_u64 (by omega)) rfl ?_)|(refine gB ?_;first|refine Nu (m:=1) (gk rfl) rfl rfl rfl (by decide) rfl ?_)|(refine Ax rfl ?_ ?_<;>intro h<;>have hq:=h<;>(try simp only[hqs] at hq))|(refine gD ?_;first|(refine Ay rfl ?_ ?_<;>intro h<;>have hq:=h<;>(try simp only[hqs] at hq)))|fail)
  ·have e:(((i:Int)+(j:Int))/2^1).toNat=(i+j)/2:=by omega
   rw[e] at hq;refine⟨((i+j)/2+1,j),⟨by dsimp only;omega,h2,?_⟩,by dsimp only;omega,Ck ⟨rfl,rfl,rfl,rfl,Yw ?_ rfl,rfl,trivial⟩ trivial rfl⟩
   ·rw[<-h3]
    conv=>rhs;rw[bs,AgZ (by omega)]
    rw[AgZ];exact Agj hq
   ·congr 1<;>omega
  ·have e:(((i:Int)+(j:Int))/2^1).toNat=(i+j)/2:=by omega
   rw[e] at hq;refine⟨(i,(i+j)/2),⟨by dsimp only;omega,by dsimp only;omega,?_⟩,by dsimp only;omega,Ck ⟨rfl,rfl,rfl,rfl,rfl,Yw ?_ rfl,trivial⟩ trivial rfl⟩
   ·rw[<-h3]
    conv=>rhs;rw[bs,AgZ (by omega)]
    rw[AgY];rw[Agl];exact Int.not_lt.2 hq
   ·congr 1<;>omega
  all_goals(have e0:C8 l t=i:=by
             rw[<-h3,bs,AgY (by omega)])
  all_goals refine CA Ab rfl rfl (by rw[e0]) ?_
  all_goals simp_all [BY,Lb]<;>omega
theorem X1 {σ:St} {L:List Nat}:AR Tryz.prog σ L (.fnc 251 []) (.clo VS):=
 .fnc .nil (enters_of Tryz.func251 (by kernel_rfl) rfl) (by rintro _ _ ⟨x,t,rfl,rfl⟩;exact⟨rfl,TI x t⟩)
theorem find_spec (l:List Nb) (t:Int) (hl:l.length<=1000000):FnS Tryz.prog 180 [AD (nbs l),AI t] [] (.tup [AI (C8 l t),AB (BY l t)]) []:=by
 refine fb Tryz.func180 (by kernel_rfl) rfl Tryz.ntmps180 Tryz.results180 rfl rfl rfl rfl fun E hS=>?_
 repeat'(first|refine sB ?_|refine Ak rfl (by exact tt0) ?_|(refine gC ?_;first|refine Iy [] (PS l _ hl) (gk rfl) rfl (by(repeat'(first|exact .nil|refine .cons ?_ ?_|exact .of0 (.c .d)|exact(X1)))<;>fail) rfl rfl rfl rfl rfl ?_)|fail)
 all_goals exact CA Ab rfl rfl rfl rfl
structure Lk where
 n:Nb
 idx:Int
 cost:Int
 deriving DecidableEq,Inhabited
def Lk.cs (x:Lk):List C:=[.d (.int .i64 x.n.node),.d (.int .i64 x.n.epoch),.d (.int .i64 x.n.rank),.d (.int .i64 x.n.slot),.d (.int .i64 x.n.att),.d (.int .i64 x.n.ack),.d (.int .i64 x.idx),.d (.int .i64 x.cost)]
def Lk.enc (x:Lk):List D:=[.int .i64 x.n.node,.int .i64 x.n.epoch,.int .i64 x.n.rank,.int .i64 x.n.slot,.int .i64 x.n.att,.int .i64 x.n.ack,.int .i64 x.idx,.int .i64 x.cost]
abbrev lks (l:List Lk):D:=Iv Lk.enc 8 l
abbrev lkA (x:Lk):AV:=.agg x.cs
def Lk.path (x:Lk):Int:=IntKind.i64.wrap (x.n.rank+x.cost)
theorem HU (x:Lk):FnS Tryz.prog 189 [lkA x] [] (AI x.path) []:=by
 refine fb Tryz.func189 (by kernel_rfl) rfl Tryz.ntmps189 Tryz.results189 rfl rfl rfl rfl fun E hS=>?_
 repeat'(first|refine sB ?_|refine Ak rfl (by exact tt0) ?_|(refine gB ?_;first|refine IY rfl rfl rfl rfl rfl ?_)|fail)
 all_goals exact AG Ab rfl rfl
def IV (a b:Lk):Int:=orI [Hf b.n.epoch a.n.epoch,Hf a.path b.path,Hf a.n.node b.n.node]
theorem QW (a b:Lk):FnS Tryz.prog 258 [lkA a,lkA b] [] (AI (IV a b)) []:=by
 refine fb Tryz.func258 (by kernel_rfl) rfl Tryz.ntmps258 Tryz.results258 rfl rfl rfl rfl fun E hS=>?_
 repeat'(first|refine sB ?_|refine Ak rfl (by exact tt0) ?_|(refine gC ?_;first|refine AN (GS _ _) (gk rfl) rfl rfl rfl rfl rfl rfl ?_|refine AN (HU a) (gk rfl) rfl rfl rfl rfl rfl rfl ?_|refine AN (HU b) (gk rfl) rfl rfl rfl rfl rfl rfl ?_|refine Iy [24] (P9 [_,_,_]) (gk rfl) rfl (by(repeat'(first|exact .nil|refine .cons ?_ ?_|exact .of0 (.c (Gt (by decide) rfl rfl (by repeat'(first|exact tt0|refine⟨?_,?_⟩|rfl))))))<;>fail) rfl rfl rfl rfl rfl ?_)|refine Ap (by kernel_rfl) ?_|fail)
 all_goals exact AG Ab rfl rfl
def HW (l:List Lk):Nat->Lk
 |0=>l.getD 0 default
 |k+1=>if IV (l.getD (k+1) default) (HW l k)<0 then l.getD (k+1) default else HW l k
abbrev M6:List DV->DV->Prop:=fun ds r=>∃(a b:Lk),ds=[.agg a.enc,.agg b.enc]/\r=.d (.int .i64 (IV a b))
abbrev Zb:List C:=[.d (.int .i64 0),.d (.int .i64 0),.d (.int .i64 0),.d (.int .i64 0),.d (.int .i64 0),.d (.int .i64 0),.d (.int .i64 0),.d (.int .i64 0)]
theorem XH (l:List Lk) (h0:0<l.length) (hl:l.length<=1000000):FnS Tryz.prog 257 [AD (lks l),.clo M6] [] (lkA (HW l (l.length-1))) []:=by
 refine fb Tryz.func257 (by kernel_rfl) rfl Tryz.ntmps257 Tryz.results257 rfl rfl rfl rfl fun E hS=>?_
 repeat'(first|refine sC ?_|refine Ak rfl (by exact tt0) ?_|(refine gI ?_;first|refine Au (gk rfl) rfl rfl rfl rfl rfl (by omega) rfl ?_)|(refine gD ?_;first|(refine Ay rfl ?_ ?_<;>intro h<;>have hq:=h<;>(try simp only[hqs] at hq)))|fail)
 ·exfalso;omega
 refine AK (ι:=Nat×Lk) (fun p=>AS [(0,AD (lks l)),(1,.clo M6),(4,.c (.ptr 4 0)),(5,.c (.ptr 5 0)),(6,AI (p.1+1:Nat))] [(4,.box Zb),(5,.box p.2.cs)])
  (fun p=>p.1+1<=l.length/\p.2=HW l p.1) (fun p=>l.length-p.1) (0,l.getD 0 default) ⟨by dsimp only;omega,rfl⟩ ?_ ?_
 ·exact Ck ⟨rfl,rfl,rfl,rfl,rfl,trivial⟩ ⟨rfl,rfl,trivial⟩ rfl
 ·rintro⟨k,m⟩ ⟨h1,h2⟩;dsimp only at h1 h2 ⊢
  repeat'(first|refine sC ?_|refine Ak rfl (by first|exact tt0|omega) ?_|(refine gC ?_;first|refine E2 (⟨_,_,rfl,rfl⟩) (gk rfl) rfl rfl rfl rfl ?_)|(refine gI ?_;first|refine Au (gk rfl) rfl rfl rfl rfl rfl (by omega) rfl ?_)|refine Ap (by kernel_rfl) ?_|(refine gD ?_;first|(refine Ay rfl ?_ ?_<;>intro h<;>have hq:=h<;>(try simp only[hqs] at hq)))|fail)
  ·have e:((k+1:Nat):Int).toNat=k+1:=by omega
   refine⟨(k+1,l.getD (k+1) default),⟨by dsimp only;omega,?_⟩,by dsimp only;omega,Ck ⟨rfl,rfl,rfl,rfl,rfl,trivial⟩ ⟨rfl,rfl,trivial⟩ rfl⟩;rw[HW,<-h2,AgZ hq]
  ·refine⟨(k+1,m),⟨by dsimp only;omega,?_⟩,by dsimp only;omega,Ck ⟨rfl,rfl,rfl,rfl,rfl,trivial⟩ ⟨rfl,rfl,trivial⟩ rfl⟩;rw[HW,<-h2,AgY (by omega)]
  all_goals have e:l.length-1=k:=by omega
  all_goals refine Ju Ab rfl rfl rfl rfl ?_
  all_goals rw[e,<-h2]
  all_goals rfl
theorem BN {l:List Nb} (h:checkNb l=0):l.length<=32/\∀i,i<l.length->Ht l i=0:=by
 unfold checkNb at h
 split at h
 ·cases h
 ·refine⟨by omega,fun i hi=>?_⟩;unfold Dl at h;cases hf:(List.range l.length).find? (fun i=>Ht l i != 0) with
  |none=>
   have:=List.find?_eq_none.1 hf i (AgQ.2 hi);simpa using this
  |some j=>
   rw[hf] at h;have:=List.find?_some hf;simp only[bne_iff_ne,ne_eq] at this;exact absurd h this
theorem Cx {l:List Nb} {i:Nat} (h:Ht l i=0):DO (l.getD i default).node (l.getD i default).epoch (l.getD i default).rank (l.getD i default).slot=true/\(0<=(l.getD i default).att/\(l.getD i default).att<=255) /\
  (0<=(l.getD i default).ack/\(l.getD i default).ack<=(l.getD i default).att):=by
 unfold Ht at h;simp only at h
 split at h
 ·rename_i hh;simp only[Agt,C0] at hh;exact⟨hh.1.1,hh.1.2,hh.2⟩
 ·cases h
def JF (l:List Nb) (i:Nat):Lk:=⟨l.getD i default,i,Jl (l.getD i default).att (l.getD i default).ack⟩
def Ad5 (r:Rk) (x:Lk):Bool:=decide (x.n.node≠r.node)&&Lj r x.n.epoch x.n.rank&&decide (x.path<65535)
def D3 (l:List Nb) (r:Rk):Nat->List Lk
 |0=>[]
 |k+1=>if Ad5 r (JF l k)=true then D3 l r k++[JF l k] else D3 l r k
theorem Ov (l:List Nb) (r:Rk):∀k,(D3 l r k).length<=k
 |0=>Ag0 _
 |k+1=>by
  have:=Ov l r k;unfold D3
  split
  ·simp;omega
  ·omega
theorem TY {σ:St} {L:List Nat}:AR Tryz.prog σ L (.fnc 258 []) (.clo M6):=
 .fnc .nil (enters_of Tryz.func258 (by kernel_rfl) rfl) (by rintro _ _ ⟨a,b,rfl,rfl⟩;exact⟨rfl,QW a b⟩)
def Hg (l:List Nb) (r:Rk):Lk:=HW (D3 l r l.length) ((D3 l r l.length).length-1)
def Ty (l:List Nb) (r:Rk):Bool:=decide ((D3 l r l.length).length≠0)
theorem NW {P:Program} {σ:St} {t u nm:Nat} {T:TypeId} {ti:TyI} {cs cs':List C} {x x':D} {e:Exit} (he:e=.normal\/e=.ret) [ht:AM P T ti] (hx:σ (.s t)=some (.v (.c (.ptr nm 0)))) (hb:σ (.b nm)=some (.k (.box cs'))) (hagg:ti.isAgg=true)
  (hl:(cs'.take ti.size).length=ti.size) (hu:σ (.s u)=some (.v (AD x'))) (h:cs=cs'.take ti.size) (h2:x=x'):Hr P [.cell t T,.tmp u] (.tup [.agg cs,AD x]) [] e σ:=
 Ee he hx hb hagg hl hu h h2
theorem Ww (l:List Nb) (r:Rk) (hc:checkNb l=0):FnS Tryz.prog 188 [AD (nbs l),rkA r] [] (.tup [lkA (Hg l r),AB (Ty l r)]) []:=by
 obtain⟨hlen,hall⟩:=BN hc;refine fb Tryz.func188 (by kernel_rfl) rfl Tryz.ntmps188 Tryz.results188 rfl rfl rfl rfl fun E hS=>?_
 repeat'(first|refine sR ?_|refine Ak rfl (by exact tt0) ?_|(show VC _ (.seq (.region _ _ _) _) _ _;refine BC ?_)|fail)
 refine JX (AS [(3,.c (.ptr 3 0)),(4,.c (.ptr 4 0)),(5,AB false),(6,AD (lks (D3 l r l.length)))] [(3,.box r.cs),(4,.box Zb)]) ?_ ?_
 ·repeat'(first|refine sC ?_|refine Ak rfl (by exact tt0) ?_|fail)
  refine AK (ι:=Nat×List Lk) (fun p=>AS [(3,.c (.ptr 3 0)),(4,.c (.ptr 4 0)),(5,AB false),(6,.c (.row 44 p.2.length)),(10,AD (nbs l)),(11,AI l.length),(12,AI p.1)] [(3,.box r.cs),(4,.box Zb),(44,.row 253 8 (rowOf Lk.enc p.2))])
   (fun p=>p.1<=l.length/\p.2=D3 l r p.1/\p.2.length<=p.1) (fun p=>l.length-p.1) (0,[]) ⟨Ag1 _,rfl,Ag1 _⟩ ?_ ?_
  ·exact(le_nil (t:=6) (nm:=44) (T:=253) (sz:=8) rfl rfl).trans (Ck ⟨rfl,rfl,rfl,rfl,rfl,rfl,rfl,trivial⟩ ⟨rfl,rfl,rfl,trivial⟩ rfl)
  ·rintro⟨k,ls⟩ ⟨h1,h2,h3⟩;dsimp only at h1 h2 h3 ⊢;have hatt:k<l.length->(l.getD k default).att<=255:=fun h=>(Cx (hall k h)).2.1.2
   have hrl:(rowOf Lk.enc ls).length=ls.length:=Al
   repeat'(first|refine sC ?_|refine Ak rfl (by first|exact tt0|omega) ?_|(refine gC ?_;first|refine AN (OZ _ _ (by omega)) (gk rfl) rfl rfl rfl rfl rfl rfl ?_|refine AN (OU r _ _) (gk rfl) rfl rfl rfl rfl rfl rfl ?_|refine AN (HU (JF l k)) (gk rfl) rfl rfl rfl rfl rfl rfl ?_)|(refine gI ?_;first|refine Au (gk rfl) rfl rfl rfl rfl rfl (by omega) rfl ?_)|(refine gA ?_;first|refine SH (gk rfl) rfl rfl rfl (by exact Al.symm) (by exact .row rfl (by rfl)) rfl rfl rfl (by(try dsimp only);omega) rfl rfl ?_)|(refine Ax rfl ?_ ?_<;>intro h<;>have hq:=h<;>(try simp only[hqs] at hq))|refine Ap (by kernel_rfl) ?_|(refine gD ?_;first|refine Ah rfl ?_|(refine Ay rfl ?_ ?_<;>intro h<;>have hq:=h<;>(try simp only[hqs] at hq)))|fail)
   ·refine⟨(k+1,ls++[JF l k]),⟨by dsimp only;omega,?_,by simp;omega⟩,by dsimp only;omega,?_⟩
    ·rw[D3,AgZ,<-h2]
     simp_all [Ad5,JF]
    ·refine Bm (fun n=>if n=44 then 100044 else n) [] hS ⟨⟨_,rfl,.c (.ptr rfl)⟩,⟨_,rfl,.c (.ptr rfl)⟩,⟨_,rfl,.c .d⟩,⟨_,rfl,.c (.row rfl (by simp))⟩,⟨_,rfl,.c .d⟩,⟨_,rfl,.c .d⟩,⟨_,rfl,.c .d⟩,trivial⟩
      ⟨⟨_,rfl,.Bs rfl rfl⟩,⟨_,rfl,.Bs rfl rfl⟩,⟨_,rfl,.Bc (by rw[AZ];rfl) Ag⟩,trivial⟩ rfl (by simp only[wfL,List.all_cons,List.all_nil,AY];rfl)
   all_goals try (refine⟨(k+1,ls),⟨by dsimp only;omega,?_,by dsimp only;omega⟩,by dsimp only;omega,Bm (fun n=>n) [] hS ⟨⟨_,rfl,.c (.ptr rfl)⟩,⟨_,rfl,.c (.ptr rfl)⟩,⟨_,rfl,.c .d⟩,⟨_,rfl,.c (.row rfl rfl)⟩,⟨_,rfl,.c .d⟩,⟨_,rfl,.c .d⟩,⟨_,rfl,.c .d⟩,trivial⟩
      ⟨⟨_,rfl,.Bs rfl rfl⟩,⟨_,rfl,.Bs rfl rfl⟩,⟨_,rfl,.Bc rfl Ag⟩,trivial⟩ rfl (by simp only[wfL,List.all_cons,List.all_nil,AY];rfl)⟩
                  rw[D3,AgY,<-h2]
                  simp_all [Ad5,JF])
   ·have e:k=l.length:=by omega
    subst e;subst h2;exact Bm (fun n=>n) [44] hS ⟨⟨_,rfl,.c (.ptr rfl)⟩,⟨_,rfl,.c (.ptr rfl)⟩,⟨_,rfl,.c .d⟩,⟨_,rfl,.c (.Cd (by simp) rfl rfl (fun _=>rfl))⟩,trivial⟩ ⟨⟨_,rfl,.Bs rfl rfl⟩,⟨_,rfl,.Bs rfl rfl⟩,trivial⟩ rfl rfl
 ·have hll:=Ov l r l.length;have hz:decide (((D3 l r l.length).length:Int)=0)=false->0<(D3 l r l.length).length:=fun h=>by
   have:=AgJ h;omega
  repeat'(first|refine sB ?_|refine Ak rfl (by exact tt0) ?_|(refine gC ?_;first|refine Iy [] (XH (D3 l r l.length) (hz (by assumption)) (by omega)) (gk rfl) rfl (by(repeat'(first|exact .nil|refine .cons ?_ ?_|exact .of0 (.c .d)|exact(TY)))<;>fail) rfl rfl rfl rfl rfl ?_)|(refine gD ?_;first|(refine Ay rfl ?_ ?_<;>intro h<;>have hq:=h<;>(try simp only[hqs] at hq)))|fail)
  ·refine NW Ab rfl rfl rfl rfl rfl ?_ ?_
   ·have:D3 l r l.length=[]:=Ag9 (by omega);rw[Hg,this];rfl
   ·rw[Ty,Agk (by omega)]
  ·refine NW Ab rfl rfl rfl rfl rfl rfl ?_;rw[Ty,Agj (by omega)]

def CL (l:List Nb) (r:Rk):Rk:=
 if 0<=r.parent then
  (if BY l r.parent=true then(update' r (l.getD (C8 l r.parent) default).epoch (l.getD (C8 l r.parent) default).rank (Jl (l.getD (C8 l r.parent) default).att (l.getD (C8 l r.parent) default).ack)).1 else Hu r)
 else r
def Ml (l:List Nb) (r1:Rk) (m:Int):Bool:=
 Ty l r1&&(decide (r1.parent=-1)||decide (r1.epoch<(Hg l r1).n.epoch)||decide (IntKind.i64.wrap ((Hg l r1).path+m)<r1.rank))
def IC (l:List Nb) (r1:Rk) (m:Int):Rk:=
 if Ml l r1 m=true then(Hh r1 (Hg l r1).n.node (Hg l r1).n.epoch (Hg l r1).n.rank (Hg l r1).cost).1 else r1
def select' (l:List Nb) (r:Rk) (m:Int):Rk×Bool×Int:=
 if checkNb l≠0\/rkErr r≠0 then(rkZ,false,1)
 else if inR m 0 65535=false then(rkZ,false,2)
 else if r.node=0 then(r,false,0)
 else(IC l (CL l r) m,decide ((IC l (CL l r) m).parent≠r.parent),0)
abbrev AbH:List C:=[.d (.int .i64 0),.d (.int .i64 0),.d (.int .i64 0),.d (.int .i64 0),.d (.int .i64 0),.d (.int .i64 0)]
theorem Lw {P:Program} {σ:St} {t u v nm:Nat} {T:TypeId} {ti:TyI} {cs cs':List C} {x x' y y':D} {e:Exit} (he:e=.normal\/e=.ret) [ht:AM P T ti] (hx:σ (.s t)=some (.v (.c (.ptr nm 0)))) (hb:σ (.b nm)=some (.k (.box cs'))) (hagg:ti.isAgg=true)
  (hl:(cs'.take ti.size).length=ti.size) (hu:σ (.s u)=some (.v (AD x'))) (hv:σ (.s v)=some (.v (AD y'))) (h:cs=cs'.take ti.size) (h2:x=x') (h3:y=y'):Hr P [.cell t T,.tmp u,.tmp v] (.tup [.agg cs,AD x,AD y]) [] e σ:=
 ⟨he,[.agg ((cs'.drop 0).take ti.size),AD x',AD y'],.agg hx hb hagg hl (.tmp rfl hu (.tmp rfl hv .nil)),by rw[h,h2,h3];rfl,fun p hp=>by cases hp⟩
theorem VP (l:List Nb) (t:Int):(BY l t=true)=(C8 l t<l.length/\Lb t (l.getD (C8 l t) default)=0):=by simp[BY]
theorem AdM {l:List Nb} (h:checkNb l=0) (k:Nat):(l.getD k default).att<=255:=by
 by_cases hk:k<l.length
 ·exact(Cx ((BN h).2 k hk)).2.1.2
 ·rw[Agi,AgO (by omega)];decide
theorem AdC {σ:St} {k:Key} {cs cs':List C} (h:cs=cs') (hx:σ k=some (.k (.box cs))):σ k=some (.k (.box cs')):=by rw[<-h];exact hx
set_option maxHeartbeats 2000000 in
theorem PR (l:List Nb) (r:Rk) (m:Int):FnS Tryz.prog 135 [AD (nbs l),rkA r,AI m] [] (.tup [rkA (select' l r m).1,AB (select' l r m).2.1,AI (select' l r m).2.2]) []:=by
 refine fb Tryz.func135 (by kernel_rfl) rfl Tryz.ntmps135 Tryz.results135 rfl rfl rfl rfl fun E hS=>?_
 repeat'(first|refine sR ?_|refine Ak rfl (by exact tt0) ?_|(refine gC ?_;first|refine AN (BM l) (gk rfl) rfl rfl rfl rfl rfl rfl ?_|refine AN (Dq r) (gk rfl) rfl rfl rfl rfl rfl rfl ?_|refine AN (DY _ _ _) (gk rfl) rfl rfl rfl rfl rfl rfl ?_)|(refine Ax rfl ?_ ?_<;>intro h<;>have hq:=h<;>(try simp only[Agl,Agm,Int.not_lt,Int.not_le,ne_eq,Agu,Bool.not_eq_true',Bool.not_eq_false',C0,Ts] at hq))|refine sq 8 rfl ?_|(refine gD ?_;first|refine Ai rfl ?_|(refine Ay rfl ?_ ?_<;>intro h<;>have hq:=h<;>(try simp only[Agl,Agm,Int.not_lt,Int.not_le,ne_eq,Agu,Bool.not_eq_true',Bool.not_eq_false',C0,Ts] at hq)))|refine B0 ?_|fail)
 --A
 all_goals first
  |(refine Lw Ab rfl rfl rfl rfl rfl rfl ?_ ?_ ?_
    all_goals unfold select'
    all_goals repeat' split
    all_goals first|rfl|(exfalso;simp_all;done))
  |skip
 --B
 have hc:checkNb l=0:=by simp_all
 have hr:rkErr r=0:=by simp_all
 have hm:inR m 0 65535=true:=by simp_all
 have hn:¬r.node=0:=by simp_all
 have hlen:=(BN hc).1;have hall:=(BN hc).2
 --C
 refine JX (AS [(0,AD (nbs l)),(2,AI m),(4,.c (.ptr 4 0)),(6,.c (.ptr 6 0)),(7,AB false),(8,AI 0),(9,AI r.parent)] [(4,.box (CL l r).cs),(6,.box AbH)]) ?_ ?_
 ·have hatt:=AdM hc (C8 l r.parent)
  repeat'(first|refine sB ?_|refine Ak rfl (by exact tt0) ?_|(refine gC ?_;first|refine AN (find_spec l _ (by omega)) (gk rfl) rfl rfl rfl rfl rfl rfl ?_|refine AN (OZ _ _ (by omega)) (gk rfl) rfl rfl rfl rfl rfl rfl ?_|refine AN (PK r _ _ _) (gk rfl) rfl rfl rfl rfl rfl rfl ?_|refine AN (Ol r) (gk rfl) rfl rfl rfl rfl rfl rfl ?_)|(refine gI ?_;first|refine Au (gk rfl) rfl rfl rfl rfl rfl (by omega) rfl ?_)|refine Ap (by kernel_rfl) ?_|(refine gD ?_;first|(refine Ay rfl ?_ ?_<;>intro h<;>have hq:=h<;>(try simp only[Agl,Agm,Int.not_lt,Int.not_le,ne_eq,Agu,Bool.not_eq_true',Bool.not_eq_false',VP] at hq)))|fail)
  all_goals refine Ck ⟨rfl,rfl,rfl,rfl,rfl,rfl,rfl,trivial⟩ ⟨AdC ?_ rfl,rfl,trivial⟩ rfl
  all_goals unfold CL
  all_goals repeat' split
  all_goals first|rfl|(exfalso;simp_all;done)|(exfalso;omega)
 refine JX (AS [(4,.c (.ptr 4 0)),(6,.c (.ptr 6 0)),(7,AB false),(8,AI 0),(9,AI r.parent)] [(4,.box (IC l (CL l r) m).cs),(6,.box AbH)]) ?_ ?_
 ·repeat'(first|refine sB ?_|refine Ak rfl (by exact tt0) ?_|(refine gC ?_;first|refine AN (Ww l (CL l r) hc) (gk rfl) rfl rfl rfl rfl rfl rfl ?_|refine AN (L6 (CL l r) _ _ _ _) (gk rfl) rfl rfl rfl rfl rfl rfl ?_|refine AN (HU (Hg l (CL l r))) (gk rfl) rfl rfl rfl rfl rfl rfl ?_)|(refine gB ?_;first|refine IY rfl rfl rfl rfl rfl ?_)|(refine Ax rfl ?_ ?_<;>intro h<;>have hq:=h<;>(try simp only[hqs] at hq))|refine Ap (by kernel_rfl) ?_|(refine gD ?_;first|refine Ai rfl ?_|refine Ah rfl ?_|(refine Ay rfl ?_ ?_<;>intro h<;>have hq:=h<;>(try simp only[hqs] at hq)))|fail)
  all_goals refine Ck ⟨rfl,rfl,rfl,rfl,rfl,trivial⟩ ⟨AdC ?_ rfl,rfl,trivial⟩ rfl
  all_goals unfold IC Ml
  all_goals split
  all_goals first|rfl|(exfalso;simp_all;done)|(exfalso;simp_all;omega)
 ·repeat'(first|refine sB ?_|refine Ak rfl (by exact tt0) ?_|refine Ap (by kernel_rfl) ?_|fail)
  refine Lw Ab rfl rfl rfl rfl rfl rfl ?_ ?_ ?_
  all_goals unfold select'
  all_goals rw[AgY (by simp[hc,hr]),AgY (by simp[hm]),AgY hn]
  all_goals rfl


def K8 (x:Nb):Int:=IntKind.i64.wrap (x.rank+Jl x.att x.ack)
theorem Mt {r:Rk} (h:rkErr r=0):Ei r.node=true/\inR r.epoch 0 65535=true/\Fm r=true/\E4 r=true:=by
 unfold rkErr at h
 split at h
 ·rename_i h1;simp only[Agt] at h1
  split at h
  ·exact⟨h1.1.1,h1.1.2,h1.2,‹_›⟩
  ·cases h
 ·cases h
theorem UL {r:Rk} (h1:Ei r.node=true) (h2:inR r.epoch 0 65535=true) (h3:Fm r=true) (h4:E4 r=true):rkErr r=0:=by
 simp[rkErr,h1,h2,h3,h4]
theorem J7 {r:Rk} (h:rkErr r=0) (hp:r.parent≠-1):r.node≠0/\Ei r.parent=true/\r.parent≠r.node/\1<=r.epoch/\0<=r.heard/\r.heard<r.rank/\r.heard<r.least/\r.rank<65535:=by
 obtain⟨_,_,_,h4⟩:=Mt h;unfold E4 at h4
 split at h4
 ·simp only[Agt,Agl] at h4;exact absurd h4.1.1.1.2 hp
 ·rename_i hn;simp only[AgY hp,Agt,Agl,ne_eq] at h4;exact⟨hn,h4.1.1.1.1.1.1,h4.1.1.1.1.1.2,h4.1.1.1.1.2,h4.1.1.1.2,h4.1.1.2,h4.1.2,h4.2⟩
theorem Rq {r:Rk} {e:Int} (h:rkErr r=0) (he:1<=e/\e<=65535) (hp:r.parent≠-1):rkErr (BP r e)=0:=by
 unfold BP
 split
 ·obtain⟨h1,h2,h3,h4⟩:=Mt h;obtain⟨g1,g2,g3,g4,g5,g6,g7,g8⟩:=J7 h hp;refine UL h1 ?_ ?_ ?_
  ·simp[inR];omega
  ·simp[Fm,inR]
  ·simp[E4,g1,hp,g2,g3,g5,g6,g8];omega
 ·exact h
def oI:Option Nat->Int
 |none=>-1
 |some i=>i
theorem X0 {n k:Nat} {p:Nat->Bool} (h:∀i,i<k->p i=false) (hk:k<n) (he:p k=true):(List.range n).find? p=some k:=by
 rw[List.find?_range_eq_some];exact⟨he,AgQ.2 hk,fun j hj=>by simp[h j hj]⟩
theorem VT {n:Nat} {p:Nat->Bool} (h:∀i,i<n->p i=false):(List.range n).find? p=none:=by
 rw[List.find?_range_eq_none];exact fun i hi=>by simp[h i hi]
def RC (r:Rk) (x:Nb):Bool:=decide (x.node≠r.node)&&Lj r x.epoch x.rank&&decide (K8 x<65535)
def KP (x y:Nb):Bool:=decide (y.epoch<x.epoch)||(decide (x.epoch=y.epoch)&&decide (K8 x<K8 y))
def My (l:List Nb) (r:Rk):Nat->Option Nat
 |0=>none
 |k+1=>if RC r (l.getD k default)=true then
   (match My l r k with
    |none=>some k
    |some b=>if KP (l.getD k default) (l.getD b default)=true then some k else some b)
  else My l r k
theorem Ka {l:List Nb} {r:Rk}:∀{k b:Nat},My l r k=some b->b<k
 |0,b,h=>by cases h
 |k+1,b,h=>by
  unfold My at h
  split at h
  ·split at h
   ·injection h with h;omega
   ·rename_i hb;have:=Ka hb
    split at h<;>(injection h with h;omega)
  ·have:=Ka h;omega
end Go.Proofs.P
end
section
namespace Go.Proofs.P
open Go Go.Sx
theorem Tg {l:List Nb} (h:checkNb l=0) {i:Nat} (h0:0<i) (hi:i<l.length):(l.getD (i-1) default).node<(l.getD i default).node:=by
 have:=(BN h).2 i hi;unfold Ht at this;simp only at this
 split at this
 ·split at this
  ·cases this
  ·rename_i hn;omega
 ·cases this
theorem MG {l:List Nb} (h:checkNb l=0) {i j:Nat} (hij:i<j) (hj:j<l.length):(l.getD i default).node<(l.getD j default).node:=by
 induction j with
 |zero=>omega
 |succ j ih=>
  have h1:=Tg h (i:=j+1) (by omega) hj;simp only[Nat.add_sub_cancel] at h1;rcases Ag2 i j with hl|hg
  ·have:=ih hl (by omega);omega
  ·have:i=j:=by omega
   subst this;exact h1
theorem Yj {f:Nat->Bool} {N:Nat} (hm:∀i j,i<=j->j<N->f j=true->f i=true) (i j:Nat) (hj:j<=N) (h1:∀k,k<i->f k=true) (h2:∀k,j<=k->k<N->f k=false):
  (∀k,k<bs f i j->f k=true)/\(∀k,bs f i j<=k->k<N->f k=false):=by
 fun_induction bs f i j with
 |case1 i j hij hf ih=>exact ih hj (fun k hk=>hm k _ (by omega) (by omega) hf) h2
 |case2 i j hij hf ih=>
  refine ih (by omega) h1 (fun k hk hkN=>?_);cases hfk:f k with
  |false=>rfl
  |true=>exact absurd (hm _ k hk hkN hfk) (by simpa using hf)
 |case3 i j hij=>exact⟨fun k hk=>h1 k hk,fun k hk=>h2 k (by omega)⟩
theorem EP {a b:Int}:Hf a b<0↔a<b:=by
 unfold Hf;split
 ·simp[*]
 ·split
  ·simp;omega
  ·simp;omega
theorem KN {a b:Int}:Hf a b=0↔a=b:=by
 unfold Hf;split
 ·simp;omega
 ·split
  ·simp;omega
  ·simp;omega
theorem M3 {l:List Nb} (h:checkNb l=0) (t:Int):C8 l t<=l.length/\(∀k,k<C8 l t->(l.getD k default).node<t)/\(∀k,C8 l t<=k->k<l.length->t<=(l.getD k default).node):=by
 have:=Yj (f:=fun i=>decide (Lb t (l.getD i default)<0)) (N:=l.length) (by
  intro i j hij hj hf;simp only[Lb,Agl,EP] at hf ⊢;rcases Ag2 i j with hl|hg
  ·have:=MG h hl hj;omega
  ·have:i=j:=by omega
   subst this;exact hf) 0 l.length (Ag0 _) (fun k hk=>absurd hk (AgW _)) (fun k hk hk2=>by omega)
 refine⟨Abh _ _ _ (Ag1 _),fun k hk=>?_,fun k hk hk2=>?_⟩
 ·have:=this.1 k hk;simpa [Lb,EP] using this
 ·have:=this.2 k hk hk2;simpa [Lb,EP] using this
theorem CB {l:List Nb} {t:Int}:BY l t=true↔C8 l t<l.length/\(l.getD (C8 l t) default).node=t:=by
 rw[VP,Lb,KN]
theorem Aaq (l:List Nb) (r:Rk) (k:Nat):Ad5 r (JF l k)=RC r (l.getD k default):=rfl
theorem Oh (ls:List Lk) (x:Lk):∀j,j<ls.length->HW (ls++[x]) j=HW ls j
 |0,h=>by
  simp only[HW,Agi];rw[List.getElem?_append_left h]
 |j+1,h=>by
  have e:(ls++[x]).getD (j+1) default=ls.getD (j+1) default:=by
   simp only[Agi];rw[List.getElem?_append_left h]
  simp only[HW,Oh ls x j (by omega),e]
theorem Je {l:List Nb} (h:checkNb l=0) {b k:Nat} (hb:b<k) (hk:k<l.length):IV (JF l k) (JF l b)<0↔KP (l.getD k default) (l.getD b default)=true:=by
 have hn:=MG h hb hk;have e1:(JF l k).path=K8 (l.getD k default):=rfl;have e2:(JF l b).path=K8 (l.getD b default):=rfl;have e3:(JF l k).n=l.getD k default:=rfl;have e4:(JF l b).n=l.getD b default:=rfl;simp only[IV,KP,e1,e2,e3,e4,orI,Bool.or_eq_true,Agt,Agl];generalize K8 (l.getD k default)=p at *;generalize K8 (l.getD b default)=q at *;generalize (l.getD k default).epoch=ek at *;generalize (l.getD b default).epoch=eb at *;generalize (l.getD k default).node=nk at *;generalize (l.getD b default).node=nb at *;clear e1 e2 e3 e4;have h1:=@EP eb ek;have h2:=@KN eb ek;have h3:=@EP p q;have h4:=@KN p q;have h5:=@EP nk nb
 repeat' split
 all_goals omega
theorem M7 {l:List Nb} (h:checkNb l=0) (r:Rk):∀k,k<=l.length->match My l r k with
  |none=>D3 l r k=[]
  |some b=>D3 l r k≠[]/\HW (D3 l r k) ((D3 l r k).length-1)=JF l b
 |0,_=>rfl
 |k+1,hk=>by
  have ih:=M7 h r k (by omega);unfold My D3;rw[Aaq];by_cases ho:RC r (l.getD k default)=true
  ·simp only[AgZ ho];cases hr:My l r k with
   |none=>
    rw[hr] at ih;simp only at ih ⊢;rw[ih];exact⟨by simp,rfl⟩
   |some b=>
    rw[hr] at ih;simp only at ih ⊢;obtain⟨hne,hmin⟩:=ih;have hlen:0<(D3 l r k).length:=List.length_pos_iff.2 hne;have hb:=Ka hr;have e:(D3 l r k++[JF l k]).length-1=(D3 l r k).length-1+1:=by simp;omega
    have e2:(D3 l r k++[JF l k]).getD ((D3 l r k).length-1+1) default=JF l k:=by
     rw[Nat.sub_add_cancel hlen];simp[Agi]
    have key:HW (D3 l r k++[JF l k]) ((D3 l r k++[JF l k]).length-1)=if KP (l.getD k default) (l.getD b default)=true then JF l k else JF l b:=by
     rw[e,HW,e2,Oh _ _ _ (by omega),hmin];by_cases hc:IV (JF l k) (JF l b)<0
     ·rw[AgZ hc,AgZ ((Je h hb (by omega)).1 hc)]
     ·rw[AgY hc,AgY (fun q=>hc ((Je h hb (by omega)).2 q))]
    rw[key];by_cases hbt:KP (l.getD k default) (l.getD b default)=true
    ·simp only[AgZ hbt];exact⟨by simp,trivial⟩
    ·simp only[AgY hbt];exact⟨by simp,trivial⟩
  ·simp only[AgY ho];exact ih
theorem VG {l:List Nb} (h:checkNb l=0) (r:Rk):Ty l r=(My l r l.length).isSome:=by
 have:=M7 h r l.length (Ag0 _);unfold Ty;cases hr:My l r l.length with
 |none=>rw[hr] at this;simp only at this;rw[this];rfl
 |some b=>rw[hr] at this;simp only at this;simp[this.1]
theorem L0 {l:List Nb} (h:checkNb l=0) (r:Rk) {b:Nat} (hb:My l r l.length=some b):Hg l r=JF l b:=by
 have:=M7 h r l.length (Ag0 _);rw[hb] at this;exact this.2
theorem Mx {l:List Nb} {r:Rk}:∀{k b:Nat},My l r k=some b->RC r (l.getD b default)=true
 |0,b,h=>by cases h
 |k+1,b,h=>by
  unfold My at h
  split at h
  ·rename_i ho
   split at h
   ·injection h with h;subst h;exact ho
   ·rename_i hb;have:=Mx hb
    split at h<;>(injection h with h;subst h;first|exact ho|exact this)
  ·exact Mx h
end Go.Proofs.P
end
section
namespace Go.Proofs.P
open Go Go.Sx
set_option maxRecDepth 4000
attribute [local irreducible] VR VC thenQ blockQ


end Go.Proofs.P
end
section
namespace Go.Proofs.P
open Go Go.Sx
theorem UM {r:Rk} (h:rkErr r=0):rkErr (Hu r)=0:=by
 unfold Hu
 split
 ·rename_i hn;obtain⟨h1,h2,h3,h4⟩:=Mt h;refine UL h1 h2 ?_ ?_
  ·simp only[Fm] at h3 ⊢;exact h3
  ·simp only[E4] at h4 ⊢;rw[AgY hn.2] at h4 ⊢
   split at h4
   ·simp only[Agt,Agl] at h4 ⊢;simp only[if_true,decide_true,Bool.true_and];exact h4.2
   ·simp only[Agt,Agl] at h4;simp only[if_true,decide_true,Bool.true_and,Bool.or_eq_true,Agl]
    left;omega
 ·exact h
theorem Xo {r:Rk} (h:rkErr r=0):(0<=r.node/\r.node<=31)/\0<=r.epoch/\r.epoch<=65535:=by
 obtain⟨h1,h2,_,_⟩:=Mt h;simp only[Ei,C0] at h1 h2;exact⟨h1,h2⟩
structure Ez (r:Rk) (fr e k c:Int):Prop where
 right:rkErr r=0
 ME:r.node≠0
 fr:0<=fr/\fr<=31/\fr≠r.node
 adv:(1<=e/\e<=65535)/\0<=k/\k<=65534
 cost:1<=c/\c<=1023
 X3:r.epoch<e\/(e=r.epoch/\k<r.least)
 path:k+c<65535
theorem KV {r:Rk} {fr e k c:Int} (h:Ez r fr e k c):Hh r fr e k c=({BP r e with parent:=fr,heard:=k,rank:=k+c},0):=by
 have ha:Uc e k=true:=by rw[Fa];exact h.adv
 have hn:Ei fr=true:=by simp only[Ei,C0];exact⟨h.fr.1,h.fr.2.1⟩
 have hc:inR c 1 1023=true:=by rw[C0];exact h.cost
 have hf:Lj r e k=true:=by
  have:=h.X3;simp only[Lj,h.right,ha,Agt,Bool.or_eq_true,Agl,ne_eq];exact⟨⟨⟨trivial,h.ME⟩,trivial⟩,this⟩
 unfold Hh;rw[AgY (by simp[h.right]),AgY (by simp[ha,hn,hc,h.fr.2.2]),AgY (by simp[hf]),AgY (by have:=h.path;omega)]
theorem Yv (r:Rk) (fr e k c:Int):Ez r fr e k c\/(Hh r fr e k c).2≠0:=by
 unfold Hh
 split
 ·right;decide
 ·rename_i h1
  split
  ·right;decide
  ·rename_i h2
   split
   ·right;decide
   ·rename_i h3
    split
    ·right;decide
    ·rename_i h4
     left
     simp only[ne_eq,Agu] at h1;simp only[Bool.not_eq_false,Agt,Agl,Fa,C0,Ei] at h2;simp only[Bool.not_eq_false,Lj,Agt,Agl,Bool.or_eq_true] at h3;exact⟨h1,h3.1.1.2,⟨h2.1.1.1.1,h2.1.1.1.2,h2.1.1.2⟩,h2.1.2,h2.2,h3.2,by omega⟩
def Cm (r:Rk) (fr e k c:Int):Rk:={BP r e with parent:=fr,heard:=k,rank:=k+c}
theorem GY {r:Rk} {e:Int} (h:r.epoch<=e):(BP r e).epoch=e:=by
 unfold BP;split
 ·rfl
 ·omega
theorem IE {r:Rk} {fr e k c:Int} (h:Ez r fr e k c):rkErr (Cm r fr e k c)=0:=by
 obtain⟨h1,h2,h3,h4⟩:=Mt h.right;have hfe:=h.X3;have ha:=h.adv;have hc:=h.cost;have hp:=h.path;have hfr:=h.fr;have hnr:=h.ME;have hep:(BP r e).epoch=e:=GY (by omega);have hnode:(BP r e).node=r.node:=by unfold BP;split<;>rfl
 have hls:k<(BP r e).least/\inR (BP r e).least 1 65535=true:=by
  unfold BP
  split
  ·exact⟨by dsimp only;omega,by dsimp only;decide⟩
  ·simp only[Fm,Bool.or_eq_true,Agt,Agl] at h3;have:inR r.least 1 65535=true:=h3.resolve_right (fun q=>hnr q.1);exact⟨by omega,this⟩
 refine UL ?_ ?_ ?_ ?_
 ·show Ei (BP r e).node=true;rw[hnode];exact h1
 ·show inR (BP r e).epoch 0 65535=true;rw[hep,C0];omega
 ·simp only[Fm,Cm,hls.2,Bool.true_or]
 ·simp only[E4,Cm,hnode,hep];rw[AgY hnr,AgY (by omega)];simp only[Agt,Agl,Ei,C0,ne_eq];have:=hls.1;omega
theorem Wo {r:Rk} {fr e k c:Int} (h:Ez r fr e k c):Ez (Cm r fr e k c) fr e k c:=by
 have hfe:=h.X3;have hnode:(BP r e).node=r.node:=by unfold BP;split<;>rfl
 have hep:(BP r e).epoch=e:=GY (by omega);refine⟨IE h,?_,?_,h.adv,h.cost,.inr ⟨hep.symm,?_⟩,h.path⟩
 ·show(BP r e).node≠0;rw[hnode];exact h.ME
 ·refine⟨h.fr.1,h.fr.2.1,?_⟩;show fr≠(BP r e).node;rw[hnode];exact h.fr.2.2
 ·show k<(BP r e).least;have ha:=h.adv;unfold BP
  split
  ·dsimp only;omega
  ·omega
theorem Nj {r:Rk} {fr e k c:Int} (h:Ez r fr e k c):Cm (Cm r fr e k c) fr e k c=Cm r fr e k c:=by
 have hfe:=h.X3;have hep:(BP r e).epoch=e:=GY (by omega);have:BP (Cm r fr e k c) e=Cm r fr e k c:=by
  unfold BP;rw[AgY];show ¬(BP r e).epoch<e;omega
 calc Cm (Cm r fr e k c) fr e k c={BP (Cm r fr e k c) e with parent:=fr,heard:=k,rank:=k+c}:=rfl
  _={Cm r fr e k c with parent:=fr,heard:=k,rank:=k+c}:=by rw[this]
  _=Cm r fr e k c:=rfl
theorem I0 {r:Rk} {e k c:Int} (hr:rkErr r=0) (hp:r.parent≠-1) (ha:Uc e k=true) (hc:inR c 1 1023=true):(update' r e k c).2=0 /\
  ((e<r.epoch/\(update' r e k c).1=r)\/(r.epoch<=e/\Ez r r.parent e k c/\(update' r e k c).1=Cm r r.parent e k c)\/(r.epoch<=e/\(update' r e k c).1=Hu (BP r e))):=by
 unfold update';rw[AgY (by simp[hr]),AgY (by simp[ha,hc]),AgY hp]
 split
 ·exact⟨rfl,.inl ⟨‹_›,rfl⟩⟩
 ·rename_i he;rcases Yv r r.parent e k c with h|h
  ·rw[KV h];exact⟨rfl,.inr (.inl ⟨by omega,h,rfl⟩)⟩
  ·rw[AgY h];exact⟨rfl,.inr (.inr ⟨by omega,rfl⟩)⟩
theorem FO {r:Rk} (h:rkErr r=0):(Hu r).parent=-1:=by
 unfold Hu
 split
 ·rfl
 ·rename_i hn;obtain⟨_,_,_,h4⟩:=Mt h;have h0:r.node=0:=by
   by_cases hz:r.node=0
   ·exact hz
   ·exact absurd ⟨h,hz⟩ hn
  unfold E4 at h4;rw[AgZ h0] at h4;simp only[Agt,Agl] at h4;exact h4.1.1.1.2
theorem Fx {l:List Nb} (h:checkNb l=0) {k:Nat} (hk:k<l.length):inR (Jl (l.getD k default).att (l.getD k default).ack) 1 1023=true:=by
 have⟨_,h1,h2⟩:=Cx ((BN h).2 k hk);generalize (l.getD k default).att=a at *;generalize (l.getD k default).ack=b at *;rw[C0];unfold Jl
 split
 ·omega
 ·split
  ·omega
  ·split
   ·omega
   ·have hb:0<b:=by omega
    have h3:1<=(128*a+b-1)/b:=by
     rw[Int.le_ediv_iff_mul_le hb];omega
    omega
theorem Dh {l:List Nb} (h:checkNb l=0) {k:Nat} (hk:k<l.length):Uc (l.getD k default).epoch (l.getD k default).rank=true/\0<=(l.getD k default).node/\(l.getD k default).node<=31:=by
 have⟨h0,_,_⟩:=Cx ((BN h).2 k hk);simp only[DO,Agt,C0] at h0;rw[Fa];exact⟨⟨h0.1.1.2,h0.1.2⟩,h0.1.1.1⟩
theorem AaR {l:List Nb} (h:checkNb l=0) {b:Nat} (hb:b<l.length):BY l (l.getD b default).node=true/\C8 l (l.getD b default).node=b:=by
 obtain⟨h1,h2,h3⟩:=M3 h (l.getD b default).node;have hge:C8 l (l.getD b default).node<=b:=by
  rcases Ag2 b (C8 l (l.getD b default).node) with hl|hg
  ·have:=h2 b hl;omega
  ·exact hg
 have heq:C8 l (l.getD b default).node=b:=by
  rcases Ag2 (C8 l (l.getD b default).node) b with hl|hg
  ·have:=MG h hl hb;have:=h3 _ (Ag0 _) (by omega);omega
  ·omega
 exact⟨by rw[CB,heq];exact⟨hb,rfl⟩,heq⟩
theorem HR {l:List Nb} {r:Rk}:∀{k b:Nat},My l r k=some b->∀i,i<k->RC r (l.getD i default)=true->KP (l.getD i default) (l.getD b default)=false
 |0,b,h,_,_,_=>by cases h
 |k+1,b,h,i,hi,hok=>by
  unfold My at h;by_cases ho:RC r (l.getD k default)=true
  ·rw[AgZ ho] at h;cases hr:My l r k with
   |none=>
    rw[hr] at h;injection h with h;subst h
    by_cases hik:i=k
    ·subst hik;simp[KP]
    ·exfalso;have:∀j,My l r j=none->∀i,i<j->RC r (l.getD i default)=false:=by
      intro j
      induction j with
      |zero=>intro _ i hi;omega
      |succ j ih=>
       intro hn i hi;unfold My at hn;by_cases hoj:RC r (l.getD j default)=true
       ·rw[AgZ hoj] at hn
        split at hn
        ·cases hn
        ·split at hn<;>cases hn
       ·rw[AgY hoj] at hn;by_cases hij:i=j
        ·subst hij;simpa using hoj
        ·exact ih hn i (by omega)
     rw[this k hr i (by omega)] at hok;cases hok
   |some b0=>
    rw[hr] at h;simp only at h
    split at h
    ·rename_i hbt;injection h with h;subst h
     by_cases hik:i=k
     ·subst hik;simp[KP]
     ·have h2:=HR hr i (by omega) hok;simp only[KP,Bool.or_eq_true,Agt,Agl] at hbt;simp only[KP,Bool.or_eq_false_iff,Bool.and_eq_false_iff,Agm] at h2 ⊢;omega
    ·rename_i hbt;injection h with h;subst h
     by_cases hik:i=k
     ·subst hik;simpa using hbt
     ·exact HR hr i (by omega) hok
  ·rw[AgY ho] at h;by_cases hik:i=k
   ·subst hik;exact absurd hok ho
   ·exact HR h i (by omega) hok
end Go.Proofs.P
end
section
namespace Go.Proofs.P
open Go Go.Sx
set_option maxRecDepth 4000
attribute [local irreducible] VR VC thenQ blockQ
abbrev Aek (l:List Nb) (s:Rk) (b:Nat):Rk×Int:=update' s (l.getD b default).epoch (l.getD b default).rank (Jl (l.getD b default).att (l.getD b default).ack)
abbrev HD (l:List Nb) (s:Rk) (b:Nat):Rk:=Cm s (l.getD b default).node (l.getD b default).epoch (l.getD b default).rank (Jl (l.getD b default).att (l.getD b default).ack)
abbrev Np (l:List Nb) (s:Rk) (b:Nat):Prop:=Ez s (l.getD b default).node (l.getD b default).epoch (l.getD b default).rank (Jl (l.getD b default).att (l.getD b default).ack)
theorem GX (r:Rk) (e:Int):(BP r e).node=r.node:=by unfold BP;split<;>rfl
theorem Om (r:Rk):(Hu r).node=r.node:=by unfold Hu;split<;>rfl
theorem J0 {l:List Nb} {s:Rk} (h:s.parent<0):CL l s=s:=by unfold CL;rw[AgY (by omega)]
theorem Mn {l:List Nb} (hl:checkNb l=0) {s:Rk} {b:Nat} (hb:b<l.length) (h:s.parent=(l.getD b default).node):CL l s=(Aek l s b).1:=by
 obtain⟨h1,h2⟩:=AaR hl hb;have:=(Dh hl hb).2.1;unfold CL;rw[AgZ (by omega),h,AgZ h1,h2]
theorem K3 {q:Rk} {fr e k c:Int} (h:Ez q fr e k c):update' (Cm q fr e k c) e k c=(Cm q fr e k c,0):=by
 have h2:=Wo h;have hp:(Cm q fr e k c).parent=fr:=rfl;have hfe:=h.X3;have hep:(Cm q fr e k c).epoch=e:=GY (by omega);have ha:Uc e k=true:=by rw[Fa];exact h.adv
 have hc:inR c 1 1023=true:=by rw[C0];exact h.cost
 have hfr:=h.fr;unfold update';rw[AgY (by simp[h2.right]),AgY (by simp[ha,hc]),AgY (by rw[hp];omega),AgY (by rw[hep];omega),hp,KV h2,AgZ rfl];exact Prod.ext (Nj h) rfl
theorem HK {l:List Nb} (hl:checkNb l=0) {s:Rk} {b:Nat} (hb:b<l.length) (h:Np l s b):CL l (HD l s b)=HD l s b:=by
 rw[Mn hl hb rfl];exact congrArg Prod.fst (K3 h)
theorem Hm {l:List Nb} (hl:checkNb l=0) {r:Rk} (hr:rkErr r=0) (hn:r.node≠0):rkErr (CL l r)=0/\(CL l r).node=r.node /\
  (((CL l r).parent=-1)\/CL l r=r\/∃b,b<l.length/\r.parent=(l.getD b default).node/\Np l r b/\CL l r=HD l r b):=by
 by_cases hp:r.parent<0
 ·rw[J0 hp];exact⟨hr,rfl,.inr (.inl rfl)⟩
 by_cases hf:BY l r.parent=true
 ·obtain⟨hb,he⟩:=CB.1 hf;obtain⟨ha,_⟩:=Dh hl hb;rw[Mn hl hb he.symm];obtain⟨_,h⟩:=I0 hr (by omega) ha (Fx hl hb);rcases h with⟨_,h⟩|⟨_,hc,h⟩|⟨_,h⟩
  ·rw[h];exact⟨hr,rfl,.inr (.inl rfl)⟩
  ·rw[h];have hc':Np l r (C8 l r.parent):=by unfold Np;rw[he];exact hc
   refine⟨IE hc,GX _ _,.inr (.inr ⟨_,hb,he.symm,hc',?_⟩)⟩;unfold HD;rw[he]
  ·rw[h];rw[Fa] at ha;have hb':=Rq hr ha.1 (show r.parent≠-1 by omega);exact⟨UM hb',by rw[Om,GX],.inl (FO hb')⟩
 ·have e:CL l r=Hu r:=by unfold CL;rw[AgZ (by omega),AgY hf]
  rw[e];exact⟨UM hr,Om _,.inl (FO hr)⟩
theorem PN {l:List Nb} (hl:checkNb l=0) {r:Rk} (hr:rkErr r=0) (hn:r.node≠0):CL l (CL l r)=CL l r:=by
 obtain⟨_,_,h⟩:=Hm hl hr hn;rcases h with h|h|⟨b,hb,_,hc,h⟩
 ·exact J0 (by omega)
 ·rw[h];exact h
 ·rw[h];exact HK hl hb hc
theorem wrap_small {a:Int} (h:-9223372036854775808<=a/\a<=9223372036854775807):IntKind.i64.wrap a=a:=wrap_i64 h
theorem P8 {l:List Nb} (hl:checkNb l=0) {b:Nat} (hb:b<l.length):K8 (l.getD b default)=(l.getD b default).rank+Jl (l.getD b default).att (l.getD b default).ack:=by
 have h1:=(Dh hl hb).1;have h2:=Fx hl hb;rw[Fa] at h1;rw[C0] at h2;exact wrap_small (by omega)
theorem Pa {l:List Nb} (hl:checkNb l=0) {s:Rk} {b:Nat} (hb:b<l.length) (h:RC s (l.getD b default)=true):Np l s b:=by
 have h1:=Dh hl hb;have h2:=Fx hl hb;have h3:=P8 hl hb;rw[Fa] at h1;rw[C0] at h2;simp only[RC,Lj,Agt,Bool.or_eq_true,Agl,ne_eq] at h;exact⟨h.1.2.1.1.1,h.1.2.1.1.2,⟨h1.2.1,h1.2.2,h.1.1⟩,h1.1,h2,h.1.2.2,by omega⟩
theorem IB {l:List Nb} (hl:checkNb l=0) {s:Rk} {m:Int} (h:Ml l s m=true):∃b,My l s l.length=some b/\b<l.length/\RC s (l.getD b default)=true/\Np l s b/\IC l s m=HD l s b /\
  (s.parent=-1\/s.epoch<(l.getD b default).epoch\/IntKind.i64.wrap (K8 (l.getD b default)+m)<s.rank):=by
 have h':=h;unfold Ml at h;simp only[Agt,Bool.or_eq_true,Agl] at h;rw[VG hl] at h;obtain⟨b,hb⟩:=Ag7.1 h.1;rw[L0 hl _ hb] at h;have hbl:=Ka hb;have hok:=Mx hb;have hc:=Pa hl hbl hok;refine⟨b,hb,hbl,hok,hc,?_,?_⟩
 ·unfold IC;rw[AgZ h',L0 hl _ hb];exact congrArg Prod.fst (KV hc)
 ·rcases h.2 with(h2|h2)|h2
  ·exact .inl h2
  ·exact .inr (.inl h2)
  ·exact .inr (.inr h2)
theorem SJ {l:List Nb} (hl:checkNb l=0) {s:Rk} {m:Int} (hm:0<=m/\m<=65535) {b:Nat} (hb:My l s l.length=some b):Ml l (HD l s b) m=false:=by
 have hbl:=Ka hb;have hok:=Mx hb;have hc:=Pa hl hbl hok;cases ht:Ml l (HD l s b) m with
 |false=>rfl
 |true=>
  exfalso;obtain⟨b',hb',hbl',hok',hc',_,h⟩:=IB hl ht;have hep:(HD l s b).epoch=(l.getD b default).epoch:=GY (by have:=hc.X3;omega);have hfe:=hc.X3;have hfe':=hc'.X3;have hok2:RC s (l.getD b' default)=true:=by
   simp only[RC,Agt,Agl,ne_eq] at hok' ⊢;refine⟨⟨?_,?_⟩,hok'.2⟩
   ·have:=hok'.1.1;rw[show(HD l s b).node=s.node from GX _ _] at this;exact this
   ·simp only[Lj,Agt,Bool.or_eq_true,Agl,ne_eq];refine⟨⟨⟨hc.right,hc.ME⟩,(Dh hl hbl').1⟩,?_⟩;by_cases he:s.epoch<(l.getD b default).epoch
    ·left;omega
    ·have hls:(HD l s b).least=s.least:=by
      show(BP s _).least=s.least;unfold BP;rw[AgY he]
     omega
  have hnb:=HR hb b' hbl' hok2;simp only[KP,Bool.or_eq_false_iff,Bool.and_eq_false_iff,Agm] at hnb;have hp:(HD l s b).parent=(l.getD b default).node:=rfl;have hrk:(HD l s b).rank=K8 (l.getD b default):=(P8 hl hbl).symm;have h0:=(Dh hl hbl).2.1;have h1:=Dh hl hbl';have h2:=Fx hl hbl';have h3:=P8 hl hbl';rw[Fa] at h1;rw[C0] at h2;simp only[RC,Agt,Agl] at hok2;rw[wrap_small (by omega)] at h;omega
structure AdT (l:List Nb) (r a:Rk) (m:Int):Prop where
 right:rkErr a=0
 node:a.node=r.node
 CL:CL l a=a
 take:Ml l a m=false
theorem UB {l:List Nb} (hl:checkNb l=0) {r:Rk} (hr:rkErr r=0) (hn:r.node≠0) {m:Int} (hm:0<=m/\m<=65535):AdT l r (IC l (CL l r) m) m:=by
 obtain⟨h1,h2,_⟩:=Hm hl hr hn;by_cases ht:Ml l (CL l r) m=true
 ·obtain⟨b,hb,hbl,hok,hc,he,_⟩:=IB hl ht;rw[he];exact⟨IE hc,(GX _ _).trans h2,HK hl hbl hc,SJ hl hm hb⟩
 ·have e:IC l (CL l r) m=CL l r:=by unfold IC;rw[AgY ht]
  rw[e];exact⟨h1,h2,PN hl hr hn,by simpa using ht⟩
abbrev Ke (p:Nb->Bool):List DV->DV->Prop:=fun ds r=>∃x:Nb,ds=[.agg x.enc]/\r=.d (.bool (p x))
def Fs (l:List Nb) (p:Nb->Bool):Option Nat:=(List.range l.length).find? fun i=>p (l.getD i default)
theorem Vw (l:List Nb) (p:Nb->Bool):FnS Tryz.prog 117 [AD (nbs l),.clo (Ke p)] [] (AI (oI (Fs l p))) []:=by
 refine fb Tryz.func117 (by kernel_rfl) rfl Tryz.ntmps117 Tryz.results117 rfl rfl rfl rfl fun E hS=>?_
 refine B9 (t:=0) rfl fun hb=>?_
 repeat'(first|refine sC ?_|refine Ak rfl (by exact tt0) ?_|fail)
 refine AK (ι:=Nat) (fun k=>AS [(0,AD (nbs l)),(1,.clo (Ke p)),(7,AI l.length),(8,AI k)] []) (fun k=>k<=l.length/\∀i,i<k->p (l.getD i default)=false) (fun k=>l.length-k) 0 ⟨Ag1 _,fun i hi=>absurd hi (AgW _)⟩ ?_ ?_
 ·exact Ck ⟨rfl,rfl,rfl,rfl,trivial⟩ trivial rfl
 ·intro k hk
  repeat'(first|refine sC ?_|refine Ak rfl (by first|exact tt0|omega) ?_|(refine gC ?_;first|refine E2 (⟨_,rfl,rfl⟩) (gk rfl) rfl rfl rfl rfl ?_)|(refine gI ?_;first|refine Au (gk rfl) rfl rfl rfl rfl rfl (by omega) rfl ?_)|(refine gD ?_;first|(refine Ay rfl ?_ ?_<;>intro h<;>have hq:=h<;>(try simp only[hqs] at hq)))|fail)
  ·refine AG Ab rfl ?_;rw[Fs,X0 hk.2 (by omega) h];rfl
  ·refine⟨k+1,⟨by omega,fun i hi=>?_⟩,by omega,Ck ⟨rfl,rfl,rfl,rfl,trivial⟩ trivial rfl⟩;by_cases hik:i<k
   ·exact hk.2 i hik
   ·have:i=k:=by omega
    subst this;exact h
  ·refine AG Ab rfl ?_;have:k=l.length:=by omega
   subst this;rw[Fs,VT hk.2];rfl
def Rk.enc (r:Rk):List D:=[.int .i64 r.node,.int .i64 r.epoch,.int .i64 r.parent,.int .i64 r.heard,.int .i64 r.rank,.int .i64 r.least]
end Go.Proofs.P
end
section
namespace Go.Proofs.P
open Go Go.Sx
set_option maxRecDepth 4000
attribute [local irreducible] VR VC thenQ blockQ retL
theorem DE (l:List Nb) (hl:l.length<=100000):FnS Tryz.prog 182 [AD (nbs l)] [] (.c (.row 7 l.length)) [(7,.row 93 6 (rowOf Nb.enc l))]:=by
 refine fb Tryz.func182 (by kernel_rfl) rfl Tryz.ntmps182 Tryz.results182 rfl rfl rfl rfl fun E hS=>?_
 refine AJ ?_
 repeat'(first|refine sR ?_|refine Ak rfl (by exact tt0) ?_|refine sq 1 rfl ?_|fail)
 refine BC ?_;refine BC ?_;refine FD rfl rfl rfl rfl fun b hb=>?_
 repeat'(first|refine sB ?_|refine Ak rfl (by exact tt0) ?_|(refine gA ?_;first|refine Be (gk rfl) rfl rfl rfl (by rfl) (by exact .rd) rfl rfl rfl (by(try dsimp only);omega) rfl rfl ?_)|(refine gD ?_;first|(refine Ay rfl ?_ ?_<;>intro h<;>have hq:=h<;>(try simp only[hqs] at hq)))|fail)
 ·have h0:l=[]:=Ag9 (hb (by assumption));subst h0;exact Ao (le_nil (T:=93) (sz:=6) (nm:=7) (t:=2) rfl rfl) (Bn Ab rfl rfl)
 ·refine Ao (Am (l:=[(2,.c (.row 7 l.length))]) (b:=[(7,.row 93 6 (rowOf Nb.enc l))]) (fun n=>n) ⟨⟨_,rfl,.c (.row rfl (by simp))⟩,trivial⟩ ⟨⟨_,rfl,.Bc ?_ Ag⟩,trivial⟩ rfl (by simp only[wfL,List.all_cons,List.all_nil,AY];rfl)) (Bn Ab rfl rfl);exact(List.nil_append _).trans (FI (enc:=Nb.enc) (sz:=6) fun _=>rfl)
theorem XY {l:List Nb} {p:Nb->Bool} (h:Fs l p=none):∀x∈l,p x=false:=by
 intro x hx;obtain⟨i,hi,rfl⟩:=List.getElem_of_mem hx;have:=List.find?_eq_none.1 h i (AgQ.2 hi);simpa [Agi,Agr hi] using this
theorem XX {l:List Nb} {p:Nb->Bool} {i:Nat} (h:Fs l p=some i):i<l.length/\p (l.getD i default)=true/\∀k,k<i->p (l.getD k default)=false:=by
 refine⟨AgQ.1 (List.mem_of_find?_eq_some h),List.find?_some (p:=fun i=>p (l.getD i default)) h,fun k hk=>?_⟩;rw[Fs,List.find?_range_eq_some] at h;simpa using h.2.2 k hk
theorem filter_none {l:List Nb} {p:Nb->Bool} (h:∀x∈l,p x=false):l.filter (fun x=>!p x)=l:=by
 rw[List.filter_eq_self];intro x hx;simp[h x hx]
theorem Ce {l:List Nb} {i:Nat} (h:i<l.length):l.take (i+1)=l.take i++[l.getD i default]:=by
 rw[List.take_add_one,Agi,Agr h];rfl
theorem C5 {l:List Nb} {i:Nat} {x:Nb} (h:x∈l.take i):∃k,k<i/\k<l.length/\x=l.getD k default:=by
 obtain⟨k,hk,rfl⟩:=List.getElem_of_mem h;rw[Ags] at hk;refine⟨k,by omega,by omega,?_⟩;rw[List.getElem_take,Agi,Agr (by omega)];rfl
theorem Ia {l:List Nb} {p:Nb->Bool} {i:Nat} (hi:i<l.length) (hp:p (l.getD i default)=true) (hlt:∀k,k<i->p (l.getD k default)=false):l.take i=(l.take (i+1)).filter (fun x=>!p x):=by
 rw[Ce hi,List.filter_append,filter_none (fun x hx=>by obtain⟨k,h1,_,rfl⟩:=C5 hx;exact hlt k h1)];rw[List.filter_cons_of_neg (by simpa using hp)];simp
theorem EO {l L:List Nb} {k:Nat} (h3:L.length=l.length) (h5:L.drop k=l.drop k) (hk:k<l.length):L.getD k default=l.getD k default/\L.drop (k+1)=l.drop (k+1):=by
 refine⟨?_,?_⟩
 ·have:=congrArg (fun x=>x[0]?) h5;simp only[List.getElem?_drop,Nat.add_zero] at this;rw[Agi,Agi,this]
 ·rw[<-List.drop_drop,<-List.drop_drop,h5]
theorem take_set {L:List Nb} {j:Nat} {x:Nb} (h:j<L.length):(L.set j x).take (j+1)=L.take j++[x]:=by
 rw[List.take_add_one,List.take_set_of_le (Ag0 _)];simp[h]
theorem Yd (l:List Nb) (p:Nb->Bool) (hl:l.length<=100000):FnS Tryz.prog 183 [.c (.row 0 l.length),.clo (Ke p)] [(0,.row 93 6 (rowOf Nb.enc l))]
  (.c (.row 0 (l.filter fun x=>!p x).length)) [(0,.row 93 6 (rowOf Nb.enc (l.filter fun x=>!p x)))]:=by
 refine FnS.Bw (enters_of Tryz.func183 (by kernel_rfl) rfl) Tryz.func183 rfl Tryz.ntmps183 Tryz.results183 rfl (by first|rfl|(simp only[A0,wfL,AH,List.all_cons,List.all_nil,AY];rfl)) rfl fun E=>?_
 refine AJ ?_;have hidx:=Vw l p;cases hf:Fs l p with
 |none=>
  rw[hf] at hidx;have hidx':FnS Tryz.prog 117 [AD (nbs l),.clo (Ke p)] [] (AI (-1)) []:=hidx
  repeat'(first|refine sB ?_|refine Ak rfl (by exact tt0) ?_|(refine gC ?_;first|refine AF [0] (hidx') (gk rfl) rfl (by(repeat'(first|exact .nil|refine .cons ?_ ?_|exact .clo|exact(.of0 (.c (A9 (by simp) rfl rfl (fun _=>rfl))))))<;>fail) (by rfl) rfl (by rfl) rfl (by rfl) rfl ?_)|(refine gD ?_;first|refine Ai rfl ?_)|fail)
  have e:l.filter (fun x=>!p x)=l:=filter_none (XY hf);rw[e];exact J9 (Bn Ab rfl rfl)
 |some i=>
  rw[hf] at hidx;obtain⟨hi,hpi,hlt⟩:=XX hf;have hidx':FnS Tryz.prog 117 [AD (nbs l),.clo (Ke p)] [] (AI (i:Nat)) []:=hidx
  repeat'(first|refine sC ?_|refine Ak rfl (by first|exact tt0|omega) ?_|(refine gC ?_;first|refine AF [0] (hidx') (gk rfl) rfl (by(repeat'(first|exact .nil|refine .cons ?_ ?_|exact .clo|exact(.of0 (.c (A9 (by simp) rfl rfl (fun _=>rfl))))))<;>fail) (by rfl) rfl (by rfl) rfl (by rfl) rfl ?_)|(refine gD ?_;first|refine Ah rfl ?_)|fail)
  refine AK (ι:=Nat×Nat×List Nb) (fun q=>AS [(0,.c (.row 0 l.length)),(1,.clo (Ke p)),(5,AI q.2.1),(6,AI q.1)] [(0,.row 93 6 (rowOf Nb.enc q.2.2))])
   (fun q=>q.1<=l.length/\q.2.1<q.1/\q.2.2.length=l.length/\q.2.2.take q.2.1=(l.take q.1).filter (fun x=>!p x)/\q.2.2.drop q.1=l.drop q.1) (fun q=>l.length-q.1) (i+1,i,l) ⟨hi,Nat.lt_succ_self _,rfl,Ia hi hpi hlt,rfl⟩ ?_ ?_
  ·exact Ck ⟨rfl,rfl,rfl,rfl,trivial⟩ ⟨rfl,trivial⟩ (by simp only[wfL,List.all_cons,List.all_nil,AY];rfl)
  ·rintro⟨k,j,L⟩ ⟨h1,h2,h3,h4,h5⟩;dsimp only at h1 h2 h3 h4 h5 ⊢
   repeat'(first|refine sR ?_|refine Ak rfl (by first|exact tt0|omega) ?_|(refine gC ?_;first|refine E2 (⟨_,rfl,rfl⟩) (gk rfl) rfl rfl rfl rfl ?_)|(refine gI ?_;first|refine BG (gk rfl) rfl rfl rfl rfl rfl rfl (by omega) (by omega) rfl ?_)|(refine gE ?_;first|refine BB (gk rfl) rfl rfl (by(simp only[Al,Agy,Agw,Agn,Ags,List.length_cons,List.length_nil,Agz,Agv,List.length_range]<;>omega)) rfl rfl ?_)|(refine gL ?_;first|refine Dj (gk rfl) rfl rfl (by omega) rfl rfl rfl ?_)|(refine gS ?_;first|refine By (gk rfl) rfl rfl rfl (by omega) rfl rfl rfl ?_)|refine sq 11 rfl ?_|(refine gD ?_;first|(refine Ay rfl ?_ ?_<;>intro h<;>have hq:=h<;>(try simp only[hqs] at hq)))|refine B0 ?_|fail)
   ·have hk:k<l.length:=by omega
    obtain⟨hx,hd⟩:=EO h3 h5 hk;refine⟨(k+1,j+1,L.set j (L.getD k default)),⟨by dsimp only;omega,by dsimp only;omega,by simp[h3],?_,?_⟩,by dsimp only;omega,Am (fun n=>n) ⟨⟨_,rfl,.c (.row rfl rfl)⟩,⟨_,rfl,.clo⟩,⟨_,rfl,.c .d⟩,⟨_,rfl,.c .d⟩,trivial⟩
     ⟨⟨_,rfl,.Bc (DJ rfl) Ag⟩,trivial⟩ rfl (by simp only[wfL,List.all_cons,List.all_nil,AY];rfl)⟩
    ·dsimp only;rw[take_set (by omega),h4,Ce hk,List.filter_append,hx,List.filter_cons_of_pos (by rw[<-hx];exact h)];rfl
    ·dsimp only;rw[List.drop_set_of_lt (by omega),hd]
   ·have hk:k<l.length:=by omega
    obtain⟨hx,hd⟩:=EO h3 h5 hk;refine⟨(k+1,j,L),⟨by dsimp only;omega,by dsimp only;omega,h3,?_,hd⟩,by dsimp only;omega,Am (fun n=>n) ⟨⟨_,rfl,.c (.row rfl rfl)⟩,⟨_,rfl,.clo⟩,⟨_,rfl,.c .d⟩,⟨_,rfl,.c .d⟩,trivial⟩
     ⟨⟨_,rfl,.Bc rfl Ag⟩,trivial⟩ rfl (by simp only[wfL,List.all_cons,List.all_nil,AY];rfl)⟩
    dsimp only;rw[h4,Ce hk,List.filter_append,List.filter_cons_of_neg (by rw[<-hx,h];simp)];simp
   ·have hk:k=l.length:=by omega
    subst hk;refine En (nm:=0) rfl (E3 (by omega)) fun cp spare hcp hmax=>?_
    rw[Al] at hcp
    repeat'(first|refine sB ?_|refine Ak rfl (by exact tt0) ?_|(show VR _ _ _ (⟨_,.slice _ _ _ _ _,_,_,_,_⟩ :: _) _ _ _;first|refine B8 (gk rfl) rfl rfl (by exact .full) rfl rfl (by first|exact .no|exact .int rfl rfl) (by omega) (by omega) rfl ?_|refine Bi (gk rfl) rfl rfl (by exact .full) rfl rfl (by exact .int rfl rfl) (by exact .no) (by omega) (by omega) (by omega) rfl ?_)|(show VR _ _ _ (⟨_,.call ⟨.builtin .clear,_,_⟩,_,_,_,_⟩ :: _) _ _ _;first|refine Jn (gk rfl) rfl (by exact .sub) rfl rfl rfl rfl rfl (by(simp only[Al,Agy,Agn,Ags,Agv,Agw];omega)) ?_)|fail)
    rw[List.take_length] at h4;have hj:(l.filter fun x=>!p x).length=j:=by rw[<-h4,Ags];omega
    rw[hj,<-h4];refine Ao (Am (l:=[(4,.c (.row 0 j))]) (b:=[(0,.row 93 6 (rowOf Nb.enc (L.take j)))]) (fun n=>n) ⟨⟨_,rfl,.c (.row rfl rfl)⟩,trivial⟩ ⟨⟨_,rfl,.Ji j ?_⟩,trivial⟩ rfl (by simp only[wfL,List.all_cons,List.all_nil,AY];rfl)) (Bn Ab rfl rfl);rw[AgE,List.take_append_of_le_length (by rw[Ags,Al];omega),List.take_take,Nat.min_self,CN]
abbrev Ad4 (slot age:Int) (x:Nb):Bool:=decide (age<=IntKind.i64.wrap (slot-x.slot))
abbrev kept (l:List Nb) (slot age:Int):List Nb:=l.filter fun x=>!Ad4 slot age x
theorem OT (x:Nb) (slot age:Int):FnS Tryz.prog 184 [nbA x,.ep (fun _=>.int .i64 slot) 1,.ep (fun _=>.int .i64 age) 1] [] (AB (Ad4 slot age x)) []:=by
 refine fb Tryz.func184 (by kernel_rfl) rfl Tryz.ntmps184 Tryz.results184 rfl rfl rfl rfl fun E hS=>?_
 repeat'(first|refine sB ?_|refine Ak rfl (by exact tt0) ?_|(refine gB ?_;first|refine IY rfl rfl rfl rfl rfl ?_)|fail)
 all_goals exact Aw Ab rfl rfl
theorem Qz {σ:St} {slot age:Int} {n1 n2:Nat} (h1:σ (.b n1)=some (.k (.box [.d (.int .i64 slot)]))) (h2:σ (.b n2)=some (.k (.box [.d (.int .i64 age)]))):AR Tryz.prog σ [n1,n2] (.fnc 184 [.ptr n1 0,.ptr n2 0]) (.clo (Ke (Ad4 slot age))):=
 .fnc (eps:=[.ep (fun _=>.int .i64 slot) 1,.ep (fun _=>.int .i64 age) 1]) (.cons (.ptr (by simp) h1 (fun j hj=>by
  have:j=0:=by omega
  subst this;rfl)) (.cons (.ptr (by simp) h2 (fun j hj=>by
  have:j=0:=by omega
  subst this;rfl)) .nil)) (enters_of Tryz.func184 (by kernel_rfl) rfl)
  (by rintro _ _ ⟨x,rfl,rfl⟩;exact⟨rfl,OT x slot age⟩)
theorem TD (l:List Nb) (slot age:Int) (h:checkNb l≠0\/slot<0\/age<0):FnS Tryz.prog 134 [AD (nbs l),AI slot,AI age] [] (AD (nbs l)) []:=by
 refine fb Tryz.func134 (by kernel_rfl) rfl Tryz.ntmps134 Tryz.results134 rfl rfl rfl rfl fun E hS=>?_
 repeat'(first|refine sR ?_|refine Ak rfl (by exact tt0) ?_|(refine gC ?_;first|refine Aa (BM l) (gk rfl) rfl rfl rfl (by rfl) rfl (by rfl) rfl ?_)|(refine Ax rfl ?_ ?_<;>intro h<;>have hq:=h<;>(try simp only[hqs] at hq))|refine sq 3 rfl ?_|(refine gD ?_;first|refine Ai rfl ?_|(refine Ay rfl ?_ ?_<;>intro h<;>have hq:=h<;>(try simp only[hqs] at hq)))|fail)
 all_goals first
  |exact P1 Ab rfl rfl
  |(exfalso;simp_all;omega)
def cnt (x:Nb) (b:Bool):Nb:=
 {x with att:=(if x.att=255 then x.att/2 else x.att)+1,ack:=(if x.att=255 then x.ack/2 else x.ack)+(if b=true then 1 else 0)}
theorem We {x:Nb} {b:Bool} (h:(0<=x.att/\x.att<=255)/\0<=x.ack/\x.ack<=x.att):(1<=(cnt x b).att/\(cnt x b).att<=255)/\0<=(cnt x b).ack/\(cnt x b).ack<=(cnt x b).att:=by
 unfold cnt;cases b<;>dsimp only<;>split<;>simp<;>omega
theorem GC {l:List Nb} {i j:Nat} {x:Nb} (hi:i<l.length):(l.set i x).getD j default=if j=i then x else l.getD j default:=by
 by_cases h:j=i
 ·subst h;simp[Agi,hi]
 ·simp[Agi,h,AgG (Ne.symm h)]
theorem Wl {l:List Nb} {i:Nat} {b:Bool} (h:checkNb l=0) (hi:i<l.length):checkNb (l.set i (cnt (l.getD i default) b))=0:=by
 obtain⟨hlen,hall⟩:=BN h;have hx:=(Cx (hall _ hi)).2;have key:∀k,k<(l.set i (cnt (l.getD i default) b)).length->Ht (l.set i (cnt (l.getD i default) b)) k=0:=by
  intro k hk;rw[Agy] at hk;have h0:=hall k hk;have hc:=@We _ b hx;have hnode:∀j,((l.set i (cnt (l.getD i default) b)).getD j default).node=(l.getD j default).node:=fun j=>by
   rw[GC hi];split
   ·rename_i e;rw[e];rfl
   ·rfl
  have hr:DO ((l.set i (cnt (l.getD i default) b)).getD k default).node ((l.set i (cnt (l.getD i default) b)).getD k default).epoch ((l.set i (cnt (l.getD i default) b)).getD k default).rank ((l.set i (cnt (l.getD i default) b)).getD k default).slot
    = DO (l.getD k default).node (l.getD k default).epoch (l.getD k default).rank (l.getD k default).slot:=by
   rw[GC hi];split
   ·rename_i e;rw[e];rfl
   ·rfl
  have ha:inR ((l.set i (cnt (l.getD i default) b)).getD k default).att 0 255=true:=by
   rw[GC hi,C0];split
   ·omega
   ·have:=(Cx h0).2.1;omega
  have hb:inR ((l.set i (cnt (l.getD i default) b)).getD k default).ack 0 ((l.set i (cnt (l.getD i default) b)).getD k default).att=true:=by
   rw[GC hi,C0];split
   ·omega
   ·have:=(Cx h0).2.2;omega
  have hh:=(Cx h0).1;unfold Ht at h0 ⊢;dsimp only at h0 ⊢;rw[hr,ha,hb,hnode,hnode];have ha0:inR (l.getD k default).att 0 255=true:=by rw[C0];have:=(Cx (hall k hk)).2.1;omega
  have hb0:inR (l.getD k default).ack 0 (l.getD k default).att=true:=by rw[C0];have:=(Cx (hall k hk)).2.2;omega
  rw[ha0,hb0] at h0;exact h0
 unfold checkNb;rw[Agy,AgY (by omega)];exact CI fun k hk=>key k (by rw[Agy];exact hk)
abbrev bls (l:List Bool):D:=Iv (fun b=>[.bool b]) 1 l
end Go.Proofs.P
end
