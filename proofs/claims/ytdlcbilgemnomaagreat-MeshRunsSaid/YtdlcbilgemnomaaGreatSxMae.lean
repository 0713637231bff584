/-
  Functions' results, and laws on them. No condition.
-/
import Derived.Test.YtdlcbilgemnomaaGreatSxMaa
set_option linter.unusedSimpArgs false
set_option linter.unusedVariables false
set_option maxHeartbeats 16000000
open Go.Proofs.Tryz
namespace Go.Proofs.P
open Go Go.Sx
set_option maxRecDepth 4000
attribute [local irreducible] VR VC thenQ blockQ
def CB (l:List Nb) (r:Rk):Rk:=
 if 0<=r.parent then
  (if BD l r.parent=true then(update' r (l.getD (CG l r.parent) default).epoch (l.getD (CG l r.parent) default).rank (JZ (l.getD (CG l r.parent) default).att (l.getD (CG l r.parent) default).ack)).1 else Gv r)
 else r
def LR (l:List Nb) (r1:Rk) (m:Int):Bool:=
 WZ l r1&&(decide (r1.parent=-1)||decide (r1.epoch<(IX l r1).n.epoch)||decide (IntKind.i64.wrap ((IX l r1).path+m)<r1.rank))
def IE (l:List Nb) (r1:Rk) (m:Int):Rk:=
 if LR l r1 m=true then(GH r1 (IX l r1).n.node (IX l r1).n.epoch (IX l r1).n.rank (IX l r1).cost).1 else r1
def select' (l:List Nb) (r:Rk) (m:Int):Rk×Bool×Int:=
 if checkNb l≠0\/rkErr r≠0 then(rkZ,false,1)
 else if inR m 0 65535=false then(rkZ,false,2)
 else if r.node=0 then(r,false,0)
 else(IE l (CB l r) m,decide ((IE l (CB l r) m).parent≠r.parent),0)
abbrev AaF:List C:=[.d (.int .i64 0),.d (.int .i64 0),.d (.int .i64 0),.d (.int .i64 0),.d (.int .i64 0),.d (.int .i64 0)]
theorem H7 {P:Program} {σ:St} {t u v nm:Nat} {T:TypeId} {ti:TyI} {cs cs':List C} {x x' y y':D} {e:Exit} (he:e=.normal\/e=.ret) [ht:AT P T ti] (hx:σ (.s t)=some (.v (.c (.ptr nm 0)))) (hb:σ (.b nm)=some (.k (.box cs'))) (hagg:ti.isAgg=true)
  (hl:(cs'.take ti.size).length=ti.size) (hu:σ (.s u)=some (.v (AD x'))) (hv:σ (.s v)=some (.v (AD y'))) (h:cs=cs'.take ti.size) (h2:x=x') (h3:y=y'):Gk P [.cell t T,.tmp u,.tmp v] (.tup [.agg cs,AD x,AD y]) [] e σ:=
 ⟨he,[.agg ((cs'.drop 0).take ti.size),AD x',AD y'],.agg hx hb hagg hl (.tmp rfl hu (.tmp rfl hv .nil)),by rw[h,h2,h3];rfl,fun p hp=>by cases hp⟩
theorem ZF (l:List Nb) (t:Int):(BD l t=true)=(CG l t<l.length/\NH t (l.getD (CG l t) default)=0):=by simp[BD]
theorem VD {l:List Nb} (h:checkNb l=0) (k:Nat):(l.getD k default).att<=255:=by
 by_cases hk:k<l.length
 ·exact(CT ((Bu h).2 k hk)).2.1.2
 ·rw[Ajt,Aj0 (by omega)];decide
theorem Xp {σ:St} {k:Key} {cs cs':List C} (h:cs=cs') (hx:σ k=some (.k (.box cs))):σ k=some (.k (.box cs')):=by rw[<-h];exact hx
theorem SY (l:List Nb) (r:Rk) (m:Int):Ak 135 [AD (nbs l),rkA r,AI m] (.tup [rkA (select' l r m).1,AB (select' l r m).2.1,AI (select' l r m).2.2]):=by
 refine Ao func135 ntmps135 results135 fun E hS=>?_
 repeat'(first|refine AJ ?_|refine Am (B3 l) ?_|refine Am (DU r) ?_|refine Am (Ev _ _ _) ?_|(refine HZ rfl ?_ ?_<;>intro h<;>have hq:=h<;>(try simp only[Ajw,Ajx,Int.not_lt,Int.not_le,ne_eq,AjF,Bool.not_eq_true',Bool.not_eq_false',CZ,MC] at hq))|refine sq 8 rfl ?_|refine Cy ?_|(refine LG rfl ?_ ?_<;>intro h<;>have hq:=h<;>(try simp only[Ajw,Ajx,Int.not_lt,Int.not_le,ne_eq,AjF,Bool.not_eq_true',Bool.not_eq_false',CZ,MC] at hq))|refine BN ?_|fail)
 --A
 all_goals first
  |(refine H7 Ae rfl rfl rfl rfl rfl rfl ?_ ?_ ?_
    all_goals unfold select'
    all_goals repeat' split
    all_goals first|rfl|(exfalso;simp_all;done))
  |skip
 --B
 have hc:checkNb l=0:=by simp_all
 have hr:rkErr r=0:=by simp_all
 have hm:inR m 0 65535=true:=by simp_all
 have hn:¬r.node=0:=by simp_all
 have hlen:=(Bu hc).1;have hall:=(Bu hc).2
 --C
 refine Et (AN [(0,AD (nbs l)),(2,AI m),(4,.c (.ptr 4 0)),(6,.c (.ptr 6 0)),(7,AB false),(8,AI 0),(9,AI r.parent)] [(4,.box (CB l r).cs),(6,.box AaF)]) ?_ ?_
 ·have hatt:=VD hc (CG l r.parent)
  repeat'(first|refine Ad ?_|refine GL (find_spec l _ (by omega)) (gk rfl) rfl rfl rfl rfl rfl rfl ?_|refine GL (RK _ _ (by omega)) (gk rfl) rfl rfl rfl rfl rfl rfl ?_|refine Am (SP r _ _ _) ?_|refine Am (Q7 r) ?_|(refine LG rfl ?_ ?_<;>intro h<;>have hq:=h<;>(try simp only[Ajw,Ajx,Int.not_lt,Int.not_le,ne_eq,AjF,Bool.not_eq_true',Bool.not_eq_false',ZF] at hq))|fail)
  all_goals refine By ⟨rfl,rfl,rfl,rfl,rfl,rfl,rfl,tt0⟩ ⟨Xp ?_ rfl,rfl,tt0⟩ rfl
  all_goals unfold CB
  all_goals repeat' split
  all_goals first|rfl|(exfalso;simp_all;done)|(exfalso;omega)
 refine Et (AN [(4,.c (.ptr 4 0)),(6,.c (.ptr 6 0)),(7,AB false),(8,AI 0),(9,AI r.parent)] [(4,.box (IE l (CB l r) m).cs),(6,.box AaF)]) ?_ ?_
 ·repeat'(first|refine Ad ?_|refine Am (Aak l (CB l r) hc) ?_|refine Am (Oz (CB l r) _ _ _ _) ?_|refine Am (JK (IX l (CB l r))) ?_|refine F2 rfl rfl rfl rfl rfl ?_|(refine Av ?_ ?_<;>intro h hq)|fail)
  all_goals refine By ⟨rfl,rfl,rfl,rfl,rfl,tt0⟩ ⟨Xp ?_ rfl,rfl,tt0⟩ rfl
  all_goals unfold IE LR
  all_goals split
  all_goals first|rfl|(exfalso;simp_all;done)|(exfalso;simp_all;omega)
 ·repeat'(first|refine Ad ?_|fail)
  refine H7 Ae rfl rfl rfl rfl rfl rfl ?_ ?_ ?_
  all_goals unfold select'
  all_goals rw[Akb (by simp[hc,hr]),Akb (by simp[hm]),Akb hn]
  all_goals rfl
theorem Fm (n e r s:Int):Ak 81 [AI n,AI e,AI r,AI s] (AB (C5 n e r s)):=by
 refine Ao func81 ntmps81 results81 fun E hS=>?_
 repeat'(first|refine Ad ?_|(refine Av ?_ ?_<;>intro h hq)|fail)
 all_goals refine Aq Ae rfl ?_
 all_goals simp_all [C5,inR]<;>omega
theorem GW (n:Int):Ak 67 [AI n] (AB (Dn n)):=by
 refine Ao func67 ntmps67 results67 fun E hS=>?_
 repeat'(first|refine Ad ?_|(refine Av ?_ ?_<;>intro h hq)|fail)
 all_goals refine Aq Ae rfl ?_
 all_goals simp_all [Dn,inR]<;>omega
theorem FI (e k c:Int):Ak 269 [AI e,AI k,AI c] (AB (Ux e k&&inR c 1 1023)):=by
 refine Ao func269 ntmps269 results269 fun E hS=>?_
 repeat'(first|refine Ad ?_|(refine Av ?_ ?_<;>intro h hq)|fail)
 all_goals refine Aq Ae rfl ?_
 all_goals simp_all [Ux,inR]<;>omega
theorem CQ (l:List Nb):Ak 49 [AD (nbs l)] (AI (checkNb l)):=by
 refine Ao func49 ntmps49 results49 fun E hS=>?_
 refine Bz (t:=0) rfl fun hb=>?_
 repeat'(first|refine Af ?_|(refine Av ?_ ?_<;>intro h hq)|fail)
 ·refine Aw Ae rfl ?_;simp[checkNb];omega
 ·refine Ax (ι:=Nat) (fun k=>AN [(0,AD (nbs l)),(3,AI k)] []) (fun k=>k<=l.length/\∀i,i<k->Hq l i=0) (fun k=>l.length-k) 0 ⟨Ake _,fun i hi=>absurd hi (Aj9 _)⟩ ?_ ?_
  ·exact By ⟨rfl,rfl,tt0⟩ trivial rfl
  ·intro k hk
   repeat'(first|refine Af ?_|refine Am (Fm _ _ _ _) ?_|refine A5 ?_|refine BZ (gk rfl) rfl rfl rfl rfl rfl (by omega) rfl ?_|(refine Av ?_ ?_<;>intro h hq)|fail)
   all_goals first
    |(refine Aw Ae rfl ?_
      first
      |exact(KT (by omega) hk (by omega)).symm
      |(refine(Na (by omega) hk (by omega) ?_ (by decide)).symm;simp_all [Hq,inR]<;>omega))
    |(refine⟨k+1,⟨by omega,fun i hi=>?_⟩,by omega,By ⟨rfl,rfl,tt0⟩ trivial rfl⟩
      by_cases hik:i<k
      ·exact hk.2 i hik
      ·have:i=k:=by omega
       subst this
       simp_all [Hq,inR]<;>omega)
    |trace_state
theorem Db (r:Rk):Ak 48 [rkA r] (AI (rkErr r)):=by
 refine Ao func48 ntmps48 results48 fun E hS=>?_
 refine Et (AN [(1,.c (.ptr 1 0)),(2,AI 0)] [(1,.box r.cs)]) ?_ ?_
 ·repeat'(first|refine AJ ?_|fail)
  exact By ⟨rfl,rfl,tt0⟩ ⟨rfl,tt0⟩ rfl
 refine Et (AN [(1,.c (.ptr 1 0)),(2,AI 0),(3,AI 1)] [(1,.box r.cs)]) ?_ ?_
 ·repeat'(first|refine AJ ?_|fail)
  exact By ⟨rfl,rfl,rfl,tt0⟩ ⟨rfl,tt0⟩ rfl
 refine Et (AN [(1,.c (.ptr 1 0)),(2,AI 0),(3,AI (if r.node=0 then 0 else 1))] [(1,.box r.cs)]) ?_ ?_
 ·repeat'(first|refine Ad ?_|(refine Av ?_ ?_<;>intro h hq)|fail)
  all_goals refine By ⟨rfl,rfl,Aat ?_ rfl,tt0⟩ ⟨rfl,tt0⟩ rfl
  ·rw[Akc hq]
  ·rw[Akb hq]
 repeat'(first|refine AJ ?_|refine Am (GW _) ?_|refine sq 7 rfl ?_|(refine Av ?_ ?_<;>intro h hq)|fail)
 all_goals first
  |(refine Aw Ae rfl ?_;simp_all [rkErr,FK,inR];omega)
  |(refine Aw Ae rfl ?_;simp_all [rkErr,FK,inR];done)
  |skip
 refine Et (AN [(1,.c (.ptr 1 0)),(2,AI 0),(4,AB (Fg r))] [(1,.box r.cs)]) ?_ ?_
 ·repeat'(first|refine Ad ?_|refine Am (GW _) ?_|(refine Av ?_ ?_<;>intro h hq)|fail)
  all_goals refine By ⟨rfl,rfl,Afd ?_ rfl,tt0⟩ ⟨rfl,tt0⟩ rfl
  all_goals simp_all [Fg]<;>omega
 ·repeat'(first|refine Ad ?_|(refine Av ?_ ?_<;>intro h hq)|fail)
  all_goals refine Aw Ae rfl ?_
  all_goals simp_all [rkErr,FK,inR]<;>omega
theorem Jc (r:Rk) (e k:Int):Ak 270 [rkA r,AI e,AI k] (AB (Ky r e k)):=by
 refine Ao func270 ntmps270 results270 fun E hS=>?_
 repeat'(first|refine Ad ?_|refine Am (Db r) ?_|refine Am (FI _ _ _) ?_|(refine Av ?_ ?_<;>intro h hq)|fail)
 all_goals refine Aq Ae rfl ?_
 all_goals simp_all [Ky,inR]
theorem KI (r:Rk) (fr e k c:Int):Ak 208 [rkA r,AI fr,AI e,AI k,AI c] (.tup [rkA (GH r fr e k c).1,AI (GH r fr e k c).2]):=by
 refine Ao func208 ntmps208 results208 fun E hS=>?_
 repeat'(first|refine Ad ?_|refine Am (Db r) ?_|refine Am (GW _) ?_|refine Am (FI _ _ _) ?_|refine Am (Jc r _ _) ?_|(refine HZ rfl ?_ ?_<;>intro h<;>have hq:=h<;>(try simp only[Ajw,Ajx,Int.not_lt,Int.not_le,ne_eq,AjF,Bool.not_eq_true',Bool.not_eq_false',E1,Oy,CZ,MC,AjE] at hq))|refine Cy ?_|(refine LG rfl ?_ ?_<;>intro h<;>have hq:=h<;>(try simp only[Ajw,Ajx,Int.not_lt,Int.not_le,ne_eq,AjF,Bool.not_eq_true',Bool.not_eq_false',E1,Oy,CZ,MC,AjE] at hq))|fail)
 all_goals try refine CO Ae rfl rfl rfl rfl rfl ?_ ?_
 all_goals unfold GH BO
 all_goals repeat' split
 all_goals first|rfl|(exfalso;simp_all;done)|(exfalso;omega)|trace_state
theorem Mc (r:Rk):Ak 203 [rkA r] (rkA (Gv r)):=by
 refine Ao func203 ntmps203 results203 fun E hS=>?_
 repeat'(first|refine Ad ?_|refine Am (Db r) ?_|(refine Av ?_ ?_<;>intro h hq)|fail)
 all_goals refine JI Ae rfl rfl rfl rfl ?_
 all_goals unfold Gv
 all_goals split
 all_goals first|rfl|(exfalso;simp_all;done)
theorem Jd (a k:Int) (h:a<=2147483648):Ak 205 [.agg [.d (.int .i64 a),.d (.int .i64 k)]] (AI (JZ a k)):=by
 refine Ao func205 ntmps205 results205 fun E hS=>?_
 repeat'(first|refine Ad ?_|(refine Av ?_ ?_<;>intro h hq)|fail)
 all_goals refine Aw Ae rfl ?_
 all_goals unfold JZ
 all_goals repeat' split
 all_goals first|rfl|(exfalso;simp_all;done)|(exfalso;omega)|exact Int.min_comm _ _|trace_state
def KZ (x:Nb):Int:=IntKind.i64.wrap (x.rank+JZ x.att x.ack)
theorem GV (x:Nb) (h:x.att<=2147483648):Ak 207 [.agg (x.enc.map C.d)] (AI (KZ x)):=by
 refine Ao func207 ntmps207 results207 fun E hS=>?_
 repeat'(first|refine Ad ?_|refine Am (Jd _ _ h) ?_|refine F2 rfl rfl rfl rfl rfl ?_|fail)
 all_goals exact AZ
theorem Td {r:Rk} (h:rkErr r=0):Dn r.node=true/\inR r.epoch 0 65535=true/\FK r=true/\Fg r=true:=by
 unfold rkErr at h
 split at h
 ·rename_i h1;simp only[AjE] at h1
  split at h
  ·exact⟨h1.1.1,h1.1.2,h1.2,‹_›⟩
  ·cases h
 ·cases h
theorem Yi {r:Rk} (h1:Dn r.node=true) (h2:inR r.epoch 0 65535=true) (h3:FK r=true) (h4:Fg r=true):rkErr r=0:=by
 simp[rkErr,h1,h2,h3,h4]
theorem JH {r:Rk} (h:rkErr r=0) (hp:r.parent≠-1):r.node≠0/\Dn r.parent=true/\r.parent≠r.node/\1<=r.epoch/\0<=r.heard/\r.heard<r.rank/\r.heard<r.least/\r.rank<65535:=by
 obtain⟨_,_,_,h4⟩:=Td h;unfold Fg at h4
 split at h4
 ·simp only[AjE,Ajw] at h4;exact absurd h4.1.1.1.2 hp
 ·rename_i hn;simp only[Akb hp,AjE,Ajw,ne_eq] at h4;exact⟨hn,h4.1.1.1.1.1.1,h4.1.1.1.1.1.2,h4.1.1.1.1.2,h4.1.1.1.2,h4.1.1.2,h4.1.2,h4.2⟩
theorem O1 {r:Rk} {e:Int} (h:rkErr r=0) (he:1<=e/\e<=65535) (hp:r.parent≠-1):rkErr (BO r e)=0:=by
 unfold BO
 split
 ·obtain⟨h1,h2,h3,h4⟩:=Td h;obtain⟨g1,g2,g3,g4,g5,g6,g7,g8⟩:=JH h hp;refine Yi h1 ?_ ?_ ?_
  ·simp[inR];omega
  ·simp[FK,inR]
  ·simp[Fg,g1,hp,g2,g3,g5,g6,g8];omega
 ·exact h
theorem Xu {r:Rk} {e:Int} (h:rkErr r=0) (he:1<=e/\e<=65535) (hp:r.parent≠-1):Gv (BO r e)=BO (Gv r) e:=by
 have hn:=(JH h hp).1;have hb:=O1 h he hp;unfold Gv;rw[Akc ⟨hb,by unfold BO;split<;>exact hn⟩,Akc ⟨h,hn⟩];unfold BO
 split<;>rfl
theorem O4 (r:Rk) (e k c:Int):Ak 204 [rkA r,AI e,AI k,AI c] (.tup [rkA (update' r e k c).1,AI (update' r e k c).2]):=by
 refine Ao func204 ntmps204 results204 fun E hS=>?_
 repeat'(first|refine Ad ?_|refine Am (Db r) ?_|refine Am (FI _ _ _) ?_|refine Am (KI r _ _ _ _) ?_|refine Am (Mc r) ?_|(refine Av ?_ ?_<;>intro h hq)|fail)
 all_goals try refine CO Ae rfl rfl rfl rfl rfl ?_ ?_
 all_goals unfold update'
 all_goals repeat' split
 all_goals first
  |rfl
  |(exfalso;simp_all;done)
  |(exfalso;omega)
  |(have ha:Ux e k=true:=by simp_all
    rw[Xu (by assumption) (by rw[E1] at ha;exact ha.1) (by assumption)];unfold BO
    first|(rw[Akc (by assumption)];rfl)|(rw[Akb (by omega)];rfl))
  |trace_state
def oI:Option Nat->Int
 |none=>-1
 |some i=>i
def Ahv (l:List Nb) (t:Int):Option Nat:=(List.range l.length).find? fun i=>decide ((l.getD i default).node=t)
theorem It {n k:Nat} {p:Nat->Bool} (h:∀i,i<k->p i=false) (hk:k<n) (he:p k=true):(List.range n).find? p=some k:=by
 rw[List.find?_range_eq_some];exact⟨he,Aj2.2 hk,fun j hj=>by simp[h j hj]⟩
theorem MR {n:Nat} {p:Nat->Bool} (h:∀i,i<n->p i=false):(List.range n).find? p=none:=by
 rw[List.find?_range_eq_none];exact fun i hi=>by simp[h i hi]
theorem CP (l:List Nb) (t:Int):Ak 150 [AD (nbs l),AI t] (AI (oI (Ahv l t))):=by
 refine Ao func150 ntmps150 results150 fun E hS=>?_
 refine Bz (t:=0) rfl fun hb=>?_
 repeat'(first|refine Af ?_|fail)
 refine Ax (ι:=Nat) (fun k=>AN [(0,AD (nbs l)),(1,AI t),(5,AI k)] []) (fun k=>k<=l.length/\∀i,i<k->decide ((l.getD i default).node=t)=false) (fun k=>l.length-k) 0 ⟨Ake _,fun i hi=>absurd hi (Aj9 _)⟩ ?_ ?_
 ·exact By ⟨rfl,rfl,rfl,tt0⟩ trivial rfl
 ·intro k hk
  repeat'(first|refine Af ?_|(refine Av ?_ ?_<;>intro h hq)|fail)
  ·refine Aw Ae rfl ?_;rw[Ahv,It hk.2 (by omega) h];rfl
  ·refine⟨k+1,⟨by omega,fun i hi=>?_⟩,by omega,By ⟨rfl,rfl,rfl,tt0⟩ trivial rfl⟩;by_cases hik:i<k
   ·exact hk.2 i hik
   ·have:i=k:=by omega
    subst this;exact h
  ·refine Aw Ae rfl ?_;have:k=l.length:=by omega
   subst this;rw[Ahv,MR hk.2];rfl
def N9 (r:Rk) (x:Nb):Bool:=decide (x.node≠r.node)&&Ky r x.epoch x.rank&&decide (KZ x<65535)
def KD (x y:Nb):Bool:=decide (y.epoch<x.epoch)||(decide (x.epoch=y.epoch)&&decide (KZ x<KZ y))
def Km (l:List Nb) (r:Rk):Nat->Option Nat
 |0=>none
 |k+1=>if N9 r (l.getD k default)=true then
   (match Km l r k with
    |none=>some k
    |some b=>if KD (l.getD k default) (l.getD b default)=true then some k else some b)
  else Km l r k
theorem Jb {l:List Nb} {r:Rk}:∀{k b:Nat},Km l r k=some b->b<k
 |0,b,h=>by cases h
 |k+1,b,h=>by
  unfold Km at h
  split at h
  ·split at h
   ·injection h with h;omega
   ·rename_i hb;have:=Jb hb
    split at h<;>(injection h with h;omega)
  ·have:=Jb h;omega
def QG (l:List Nb) (r:Rk):Int:=if checkNb l=0 then max 0 (oI (Km l r l.length)) else 0
def QH (l:List Nb) (r:Rk):Bool:=if checkNb l=0 then(Km l r l.length).isSome else false
theorem Tr (l:List Nb) (r:Rk):Ak 206 [AD (nbs l),rkA r] (.tup [AI (QG l r),AB (QH l r)]):=by
 refine Ao func206 ntmps206 results206 fun E hS=>?_
 refine Bz (t:=0) rfl fun hb=>?_
 repeat'(first|refine Af ?_|refine Am (CQ l) ?_|(refine Av ?_ ?_<;>intro h hq)|fail)
 ·refine IP Ae rfl rfl ?_ ?_
  ·rw[QG,Akb hq]
  ·rw[QH,Akb hq]
 have hc:checkNb l=0:=hq;have hatt:=fun k=>Int.le_trans (VD (l:=l) hc k) (by decide:(255:Int)<=2147483648)
 refine Ax (ι:=Nat×Option Nat) (fun p=>AN [(0,AD (nbs l)),(3,.c (.ptr 3 0)),(6,AI (oI p.2)),(7,AI p.1)] [(3,.box r.cs)]) (fun p=>p.1<=l.length/\p.2=Km l r p.1) (fun p=>l.length-p.1) (0,none) ⟨Ake _,rfl⟩ ?_ ?_
 ·exact By ⟨rfl,rfl,rfl,rfl,tt0⟩ ⟨rfl,tt0⟩ rfl
 ·rintro⟨k,b⟩ ⟨h1,h2⟩;dsimp only at h1 h2 ⊢;have hlt:∀j,b=some j->j<k:=fun j hj=>Jb (h2.symm.trans hj)
  rcases b with _|b
  ·repeat'(first|refine Af ?_|refine Am (Jc r _ _) ?_|refine Am (GV (l.getD k default) (hatt k)) ?_|(refine Av ?_ ?_<;>intro h hq)|fail)
   all_goals first
    |(exfalso;simp only[oI] at hq;omega)
    |(refine⟨(k+1,some k),⟨by dsimp only;omega,?_⟩,by dsimp only;omega,By ⟨rfl,rfl,rfl,rfl,tt0⟩ ⟨rfl,tt0⟩ rfl⟩
      rw[Km,<-h2,Akc (by simp_all [N9])])
    |(refine⟨(k+1,none),⟨by dsimp only;omega,?_⟩,by dsimp only;omega,By ⟨rfl,rfl,rfl,rfl,tt0⟩ ⟨rfl,tt0⟩ rfl⟩
      rw[Km,<-h2,Akb (by simp_all [N9])])
    |(have:k=l.length:=by omega
      subst this;refine IP Ae rfl rfl ?_ ?_
      ·rw[QG,Akc hc,<-h2];first|rfl|(simp only[oI];omega)
      ·rw[QH,Akc hc,<-h2];rfl)
    |trace_state
  ·have hbk:b<k:=hlt b rfl
   repeat'(first|refine Af ?_|refine Am (Jc r _ _) ?_|refine Am (GV (l.getD k default) (hatt k)) ?_|refine Am (GV (l.getD b default) (hatt b)) ?_|(refine Av ?_ ?_<;>intro h hq)|fail)
   all_goals first
    |(exfalso;simp only[oI] at hq;omega)
    |(refine⟨(k+1,some k),⟨by dsimp only;omega,?_⟩,by dsimp only;omega,By ⟨rfl,rfl,rfl,rfl,tt0⟩ ⟨rfl,tt0⟩ rfl⟩
      rw[Km,<-h2,Akc (by simp_all [N9])];dsimp only;rw[Akc (by simp_all [KD])])
    |(refine⟨(k+1,some b),⟨by dsimp only;omega,?_⟩,by dsimp only;omega,By ⟨rfl,rfl,rfl,rfl,tt0⟩ ⟨rfl,tt0⟩ rfl⟩
      rw[Km,<-h2]
      split
      ·dsimp only
       split
       ·exfalso;rename_i ho hbt;simp only[N9,AjE,Ajw] at ho;simp only[KD,Aks,AjE,Ajw] at hbt
        first|omega|(simp_all;done)
       ·rfl
      ·rfl)
    |(have:k=l.length:=by omega
      subst this;refine IP Ae rfl rfl ?_ ?_
      ·rw[QG,Akc hc,<-h2];first|rfl|(simp only[oI];omega)
      ·rw[QH,Akc hc,<-h2];rfl)
    |trace_state
end Go.Proofs.P
namespace Go.Proofs.P
open Go Go.Sx
theorem WE {l:List Nb} (h:checkNb l=0) {i:Nat} (h0:0<i) (hi:i<l.length):(l.getD (i-1) default).node<(l.getD i default).node:=by
 have:=(Bu h).2 i hi;unfold Hq at this;simp only at this
 split at this
 ·split at this
  ·cases this
  ·rename_i hn;omega
 ·cases this
theorem Jg {l:List Nb} (h:checkNb l=0) {i j:Nat} (hij:i<j) (hj:j<l.length):(l.getD i default).node<(l.getD j default).node:=by
 induction j with
 |zero=>omega
 |succ j ih=>
  have h1:=WE h (i:=j+1) (by omega) hj;simp only[Nat.add_sub_cancel] at h1;rcases Akf i j with hl|hg
  ·have:=ih hl (by omega);omega
  ·have:i=j:=by omega
   subst this;exact h1
theorem Ab8 {f:Nat->Bool} {N:Nat} (hm:∀i j,i<=j->j<N->f j=true->f i=true) (i j:Nat) (hj:j<=N) (h1:∀k,k<i->f k=true) (h2:∀k,j<=k->k<N->f k=false):
  (∀k,k<bs f i j->f k=true)/\(∀k,bs f i j<=k->k<N->f k=false):=by
 fun_induction bs f i j with
 |case1 i j hij hf ih=>exact ih hj (fun k hk=>hm k _ (by omega) (by omega) hf) h2
 |case2 i j hij hf ih=>
  refine ih (by omega) h1 (fun k hk hkN=>?_);cases hfk:f k with
  |false=>rfl
  |true=>exact absurd (hm _ k hk hkN hfk) (by simpa using hf)
 |case3 i j hij=>exact⟨fun k hk=>h1 k hk,fun k hk=>h2 k (by omega)⟩
theorem FP {a b:Int}:IW a b<0↔a<b:=by
 unfold IW;split
 ·simp[*]
 ·split
  ·simp;omega
  ·simp;omega
theorem M5 {a b:Int}:IW a b=0↔a=b:=by
 unfold IW;split
 ·simp;omega
 ·split
  ·simp;omega
  ·simp;omega
theorem Jm {l:List Nb} (h:checkNb l=0) (t:Int):CG l t<=l.length/\(∀k,k<CG l t->(l.getD k default).node<t)/\(∀k,CG l t<=k->k<l.length->t<=(l.getD k default).node):=by
 have:=Ab8 (f:=fun i=>decide (NH t (l.getD i default)<0)) (N:=l.length) (by
  intro i j hij hj hf;simp only[NH,Ajw,FP] at hf ⊢;rcases Akf i j with hl|hg
  ·have:=Jg h hl hj;omega
  ·have:i=j:=by omega
   subst this;exact hf) 0 l.length (Akd _) (fun k hk=>absurd hk (Aj9 _)) (fun k hk hk2=>by omega)
 refine⟨Ae2 _ _ _ (Ake _),fun k hk=>?_,fun k hk hk2=>?_⟩
 ·have:=this.1 k hk;simpa [NH,FP] using this
 ·have:=this.2 k hk hk2;simpa [NH,FP] using this
theorem BP {l:List Nb} {t:Int}:BD l t=true↔CG l t<l.length/\(l.getD (CG l t) default).node=t:=by
 rw[ZF,NH,M5]
theorem HO {l:List Nb} (h:checkNb l=0) (t:Int):Ahv l t=if BD l t=true then some (CG l t) else none:=by
 obtain⟨h1,h2,h3⟩:=Jm h t
 split
 ·rename_i hf;rw[BP] at hf;exact It (fun i hi=>Ajv (by have:=h2 i hi;omega)) hf.1 (Aju hf.2)
 ·rename_i hf;refine MR fun i hi=>?_
  rw[BP] at hf;simp only[Ajx];intro he;rcases Akf i (CG l t) with hl|hg
  ·have:=h2 i hl;omega
  ·have hb:=h3 i hg hi;rcases Akf (CG l t) i with hl'|hg'
   ·have:=h3 (CG l t) (Akd _) (by omega);have:=Jg h hl' hi;omega
   ·have:i=CG l t:=by omega
    subst this;exact hf ⟨hi,he⟩
theorem Aem (l:List Nb) (r:Rk) (k:Nat):Aht r (KM l k)=N9 r (l.getD k default):=rfl
theorem Q4 (ls:List Lk) (x:Lk):∀j,j<ls.length->JM (ls++[x]) j=JM ls j
 |0,h=>by
  simp only[JM,Ajt];rw[Akv h]
 |j+1,h=>by
  have e:(ls++[x]).getD (j+1) default=ls.getD (j+1) default:=by
   simp only[Ajt];rw[Akv h]
  simp only[JM,Q4 ls x j (by omega),e]
theorem KU {l:List Nb} (h:checkNb l=0) {b k:Nat} (hb:b<k) (hk:k<l.length):KB (KM l k) (KM l b)<0↔KD (l.getD k default) (l.getD b default)=true:=by
 have hn:=Jg h hb hk;have e1:(KM l k).path=KZ (l.getD k default):=rfl;have e2:(KM l b).path=KZ (l.getD b default):=rfl;have e3:(KM l k).n=l.getD k default:=rfl;have e4:(KM l b).n=l.getD b default:=rfl;simp only[KB,KD,e1,e2,e3,e4,orI,Aks,AjE,Ajw];generalize KZ (l.getD k default)=p at *;generalize KZ (l.getD b default)=q at *;generalize (l.getD k default).epoch=ek at *;generalize (l.getD b default).epoch=eb at *;generalize (l.getD k default).node=nk at *;generalize (l.getD b default).node=nb at *;clear e1 e2 e3 e4;have h1:=@FP eb ek;have h2:=@M5 eb ek;have h3:=@FP p q;have h4:=@M5 p q;have h5:=@FP nk nb
 repeat' split
 all_goals omega
theorem PK {l:List Nb} (h:checkNb l=0) (r:Rk):∀k,k<=l.length->match Km l r k with
  |none=>EA l r k=[]
  |some b=>EA l r k≠[]/\JM (EA l r k) ((EA l r k).length-1)=KM l b
 |0,_=>rfl
 |k+1,hk=>by
  have ih:=PK h r k (by omega);unfold Km EA;rw[Aem];by_cases ho:N9 r (l.getD k default)=true
  ·simp only[Akc ho];cases hr:Km l r k with
   |none=>
    rw[hr] at ih;simp only at ih ⊢;rw[ih];exact⟨by simp,rfl⟩
   |some b=>
    rw[hr] at ih;simp only at ih ⊢;obtain⟨hne,hmin⟩:=ih;have hlen:0<(EA l r k).length:=List.length_pos_iff.2 hne;have hb:=Jb hr;have e:(EA l r k++[KM l k]).length-1=(EA l r k).length-1+1:=by simp;omega
    have e2:(EA l r k++[KM l k]).getD ((EA l r k).length-1+1) default=KM l k:=by
     rw[Nat.sub_add_cancel hlen];simp[Ajt]
    have key:JM (EA l r k++[KM l k]) ((EA l r k++[KM l k]).length-1)=if KD (l.getD k default) (l.getD b default)=true then KM l k else KM l b:=by
     rw[e,JM,e2,Q4 _ _ _ (by omega),hmin];by_cases hc:KB (KM l k) (KM l b)<0
     ·rw[Akc hc,Akc ((KU h hb (by omega)).1 hc)]
     ·rw[Akb hc,Akb (fun q=>hc ((KU h hb (by omega)).2 q))]
    rw[key];by_cases hbt:KD (l.getD k default) (l.getD b default)=true
    ·simp only[Akc hbt];exact⟨by simp,tt0⟩
    ·simp only[Akb hbt];exact⟨by simp,tt0⟩
  ·simp only[Akb ho];exact ih
theorem MG {l:List Nb} (h:checkNb l=0) (r:Rk):WZ l r=(Km l r l.length).isSome:=by
 have:=PK h r l.length (Akd _);unfold WZ;cases hr:Km l r l.length with
 |none=>rw[hr] at this;simp only at this;rw[this];rfl
 |some b=>rw[hr] at this;simp only at this;simp[this.1]
theorem KC {l:List Nb} (h:checkNb l=0) (r:Rk) {b:Nat} (hb:Km l r l.length=some b):IX l r=KM l b:=by
 have:=PK h r l.length (Akd _);rw[hb] at this;exact this.2
theorem Mb {l:List Nb} {r:Rk}:∀{k b:Nat},Km l r k=some b->N9 r (l.getD b default)=true
 |0,b,h=>by cases h
 |k+1,b,h=>by
  unfold Km at h
  split at h
  ·rename_i ho
   split at h
   ·injection h with h;subst h;exact ho
   ·rename_i hb;have:=Mb hb
    split at h<;>(injection h with h;subst h;first|exact ho|exact this)
  ·exact Mb h
theorem Ael {r:Rk} {x:Nb} (h:N9 r x=true):rkErr r=0:=by
 simp only[N9,Ky,AjE,Ajw] at h;exact h.1.2.1.1.1
theorem Agr {r:Rk} (h:rkErr r=0):r.parent<0↔r.parent=-1:=by
 by_cases hp:r.parent=-1
 ·omega
 ·have:=(JH h hp).2.1;simp only[Dn,CZ] at this;omega
end Go.Proofs.P
