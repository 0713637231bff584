/-
  Functions' results, and laws on them. No condition.
-/
import Derived.Test.YtdlcbilgemnomaaGreatSxT30
set_option linter.unusedSimpArgs false
set_option linter.unusedVariables false
open Go.Proofs.Tryz
namespace Go.Proofs.P
open Go Go.Sx
set_option maxRecDepth 4000
attribute [local irreducible] VR VC thenQ blockQ
structure Nb where
 node:Int
 epoch:Int
 rank:Int
 slot:Int
 att:Int
 ack:Int
 deriving DecidableEq,Inhabited
def Nb.enc (x:Nb):List D:=[.int .i64 x.node,.int .i64 x.epoch,.int .i64 x.rank,.int .i64 x.slot,.int .i64 x.att,.int .i64 x.ack]
abbrev nbs (l:List Nb):D:=Hj Nb.enc 6 l
def inR (n lo hi:Int):Bool:=decide (lo<=n/\n<=hi)
theorem CZ (n lo hi:Int):(inR n lo hi=true)=(lo<=n/\n<=hi):=by simp[inR]
theorem MC (n lo hi:Int):(inR n lo hi=false)=¬(lo<=n/\n<=hi):=by simp[inR]
theorem Ev (n lo hi:Int):Ak 116 [AI n,AI lo,AI hi] (AB (inR n lo hi)):=by
 refine Ao func116 ntmps116 results116 fun E hS=>?_
 repeat'(first|refine Ad ?_|(refine Av ?_ ?_<;>intro h hq)|fail)
 all_goals refine Aq Ae rfl ?_
 all_goals simp_all [inR]<;>omega
def C5 (n e r s:Int):Bool:=inR n 0 31&&inR e 1 65535&&inR r 0 65534&&inR s 0 1099511627776
theorem DF (n e r s:Int):Ak 115 [AI n,AI e,AI r,AI s] (AB (C5 n e r s)):=by
 refine Ao func115 ntmps115 results115 fun E hS=>?_
 repeat'(first|refine Ad ?_|refine Am (Ev _ _ _) ?_|(refine Av ?_ ?_<;>intro h hq)|fail)
 all_goals refine Aq Ae rfl ?_
 all_goals simp_all [C5]
def Hq (l:List Nb) (i:Nat):Int:=
 let x:=l.getD i default
 if C5 x.node x.epoch x.rank x.slot&&inR x.att 0 255&&inR x.ack 0 x.att then
  if 0<i/\x.node<=(l.getD (i-1) default).node then 5 else 0
 else 2
def checkNb (l:List Nb):Int:=if 32<l.length then 8 else DQ l.length (Hq l)
theorem Na {l:List Nb} {k:Nat} {e:Int} (h0:l.length<=32) (h:k<=l.length/\∀i,i<k->Hq l i=0) (hk:k<l.length) (he:Hq l k=e) (hne:e≠0):e=checkNb l:=by
 subst he;rw[checkNb,Akb (by omega),HS h.2 hk hne]
theorem KT {l:List Nb} {k:Nat} (h0:l.length<=32) (h:k<=l.length/\∀i,i<k->Hq l i=0) (hk:l.length<=k):(0:Int)=checkNb l:=by
 rw[checkNb,Akb (by omega),De fun i hi=>h.2 i (by omega)]
theorem B3 (l:List Nb):Ak 73 [AD (nbs l)] (AI (checkNb l)):=by
 refine Ao func73 ntmps73 results73 fun E hS=>?_
 refine Bz (t:=0) rfl fun hb=>?_
 repeat'(first|refine Af ?_|(refine Av ?_ ?_<;>intro h hq)|fail)
 ·refine Aw Ae rfl ?_;simp[checkNb];omega
 ·refine Ax (ι:=Nat) (fun k=>AN [(0,AD (nbs l)),(8,AD (nbs l)),(9,AI l.length),(10,AI k)] []) (fun k=>k<=l.length/\∀i,i<k->Hq l i=0) (fun k=>l.length-k) 0 ⟨Ake _,fun i hi=>absurd hi (Aj9 _)⟩ ?_ ?_
  ·exact By ⟨rfl,rfl,rfl,rfl,tt0⟩ trivial rfl
  ·intro k hk
   repeat'(first|refine Af ?_|refine Am (DF _ _ _ _) ?_|refine Am (Ev _ _ _) ?_|refine A5 ?_|refine BZ (gk rfl) rfl rfl rfl rfl rfl (by omega) rfl ?_|(refine Av ?_ ?_<;>intro h hq)|fail)
   all_goals first
    |(refine Aw Ae rfl ?_
      first
      |exact(KT (by omega) hk (by omega)).symm
      |(refine(Na (by omega) hk (by omega) ?_ (by decide)).symm;simp_all [Hq]))
    |(refine⟨k+1,⟨by omega,fun i hi=>?_⟩,by omega,By ⟨rfl,rfl,rfl,rfl,tt0⟩ trivial rfl⟩
      by_cases hik:i<k
      ·exact hk.2 i hik
      ·have:i=k:=by omega
       subst this
       simp_all [Hq])
    |trace_state
structure Rk where
 node:Int
 epoch:Int
 parent:Int
 heard:Int
 rank:Int
 least:Int
 deriving DecidableEq,Inhabited
def Rk.cs (r:Rk):List C:=[.d (.int .i64 r.node),.d (.int .i64 r.epoch),.d (.int .i64 r.parent),.d (.int .i64 r.heard),.d (.int .i64 r.rank),.d (.int .i64 r.least)]
abbrev rkA (r:Rk):AV:=.agg r.cs
theorem D3 (n lo hi:Int):Ak 108 [AI n,AI lo,AI hi] (AB (inR n lo hi)):=by
 refine Ao func108 ntmps108 results108 fun E hS=>?_
 repeat'(first|refine Ad ?_|(refine Av ?_ ?_<;>intro h hq)|fail)
 all_goals refine Aq Ae rfl ?_
 all_goals simp_all [inR]<;>omega
def Dn (n:Int):Bool:=inR n 0 31
theorem Ew (n:Int):Ak 65 [AI n] (AB (Dn n)):=by
 refine Ao func65 ntmps65 results65 fun E hS=>?_
 repeat'(first|refine Ad ?_|refine Am (D3 _ _ _) ?_|fail)
 all_goals exact AO
def Ux (e r:Int):Bool:=inR e 1 65535&&inR r 0 65534
theorem PS (e r:Int):Ak 254 [AI e,AI r] (AB (Ux e r)):=by
 refine Ao func254 ntmps254 results254 fun E hS=>?_
 repeat'(first|refine Ad ?_|refine Am (D3 _ _ _) ?_|(refine Av ?_ ?_<;>intro h hq)|fail)
 all_goals refine Aq Ae rfl ?_
 all_goals simp_all [Ux]
def FK (r:Rk):Bool:=inR r.least 1 65535||(decide (r.node=0)&&decide (r.least=0))
def Fg (r:Rk):Bool:=
 if r.node=0 then decide (1<=r.epoch)&&decide (r.parent=-1)&&decide (r.heard=0)&&decide (r.rank=0)&&(decide (r.least=0)||decide (r.least=65535))
 else if r.parent=-1 then decide (r.heard=65535)&&decide (r.rank=65535)&&(decide (0<r.epoch)||decide (r.least=65535))
 else Dn r.parent&&decide (r.parent≠r.node)&&decide (1<=r.epoch)&&decide (0<=r.heard)&&decide (r.heard<r.rank)&&decide (r.heard<r.least)&&decide (r.rank<65535)
def rkErr (r:Rk):Int:=if Dn r.node&&inR r.epoch 0 65535&&FK r then(if Fg r then 0 else 1) else 2
theorem DU (r:Rk):Ak 72 [rkA r] (AI (rkErr r)):=by
 refine Ao func72 ntmps72 results72 fun E hS=>?_
 refine Et (AN [(1,.c (.ptr 1 0)),(2,AI 0)] [(1,.box r.cs)]) ?_ ?_
 ·repeat'(first|refine AJ ?_|fail)
  show Le _ _ _;exact By ⟨rfl,rfl,tt0⟩ ⟨rfl,tt0⟩ rfl
 refine Et (AN [(1,.c (.ptr 1 0)),(2,AI 0),(3,AB (FK r))] [(1,.box r.cs)]) ?_ ?_
 ·repeat'(first|refine AJ ?_|refine Am (D3 _ _ _) ?_|(refine Av ?_ ?_<;>intro h hq)|fail)
  all_goals show Le _ _ _
  all_goals refine By ⟨rfl,rfl,Afd ?_ rfl,tt0⟩ ⟨rfl,tt0⟩ rfl
  all_goals simp_all [FK]
 repeat'(first|refine AJ ?_|refine Am (D3 _ _ _) ?_|refine Am (Ew _) ?_|(show VC _ (.seq (.region _ _ _) _) _ _;refine Dw ?_)|(show VC _ (.seq (.seq (.region _ _ _) (.cond _ _ _)) _) _ _;refine Dw ?_)|(refine Av ?_ ?_<;>intro h hq)|fail)
 all_goals first
  |(refine Aw Ae rfl ?_;simp_all [rkErr])|refine Et (AN [(1,.c (.ptr 1 0)),(2,AI 0),(4,AB (Fg r))] [(1,.box r.cs)]) ?_ ?_
 ·repeat'(first|refine Af ?_|refine Am (Ew _) ?_|(refine Av ?_ ?_<;>intro h hq)|fail)
  all_goals show Le _ _ _
  all_goals refine By ⟨rfl,rfl,Afd ?_ rfl,tt0⟩ ⟨rfl,tt0⟩ rfl
  all_goals simp_all [Fg]<;>omega
 ·repeat'(first|refine Ad ?_|(refine Av ?_ ?_<;>intro h hq)|fail)
  all_goals refine Aw Ae rfl ?_
  all_goals simp_all [rkErr]
def Ky (r:Rk) (e k:Int):Bool:=decide (rkErr r=0)&&decide (r.node≠0)&&Ux e k&&(decide (r.epoch<e)||(decide (e=r.epoch)&&decide (k<r.least)))
theorem RE (r:Rk) (e k:Int):Ak 256 [rkA r,AI e,AI k] (AB (Ky r e k)):=by
 refine Ao func256 ntmps256 results256 fun E hS=>?_
 repeat'(first|refine Ad ?_|refine Am (DU r) ?_|refine Am (PS _ _) ?_|(refine Av ?_ ?_<;>intro h hq)|fail)
 all_goals try refine Aq Ae rfl ?_
 all_goals simp_all [Ky]
def BO (r:Rk) (e:Int):Rk:=if r.epoch<e then{r with epoch:=e,least:=65535} else r
theorem JI {P:Program} {σ:St} {t nm:Nat} {T:TypeId} {ti:TyI} {cs cs':List C} {e:Exit} (he:e=.normal\/e=.ret) [ht:AT P T ti] (hx:σ (.s t)=some (.v (.c (.ptr nm 0)))) (hb:σ (.b nm)=some (.k (.box cs'))) (hagg:ti.isAgg=true)
  (hl:(cs'.take ti.size).length=ti.size) (h:cs=cs'.take ti.size):Gk P [.cell t T] (.agg cs) [] e σ:=
 ⟨he,[.agg ((cs'.drop 0).take ti.size)],.agg hx hb hagg hl .nil,by rw[h];rfl,fun p hp=>by cases hp⟩
theorem Ov (r:Rk) (e:Int):Ak 255 [rkA r,AI e] (rkA (BO r e)):=by
 refine Ao func255 ntmps255 results255 fun E hS=>?_
 repeat'(first|refine Ad ?_|(refine Av ?_ ?_<;>intro h hq)|fail)
 all_goals refine JI Ae rfl rfl rfl rfl ?_
 all_goals unfold BO
 all_goals split
 all_goals first|rfl|(exfalso;omega)
def Gv (r:Rk):Rk:=if rkErr r=0/\r.node≠0 then{r with parent:=-1,heard:=65535,rank:=65535} else r
theorem Q7 (r:Rk):Ak 187 [rkA r] (rkA (Gv r)):=by
 refine Ao func187 ntmps187 results187 fun E hS=>?_
 repeat'(first|refine Ad ?_|refine Am (DU r) ?_|(refine Av ?_ ?_<;>intro h hq)|fail)
 all_goals refine JI Ae rfl rfl rfl rfl ?_
 all_goals unfold Gv
 all_goals split
 all_goals first|rfl|(exfalso;simp_all;done)
def rkZ:Rk:=⟨0,0,0,0,0,0⟩
theorem CO {P:Program} {σ:St} {t u nm:Nat} {T:TypeId} {ti:TyI} {cs cs':List C} {x x':D} {e:Exit} (he:e=.normal\/e=.ret) [ht:AT P T ti] (hx:σ (.s t)=some (.v (.c (.ptr nm 0)))) (hb:σ (.b nm)=some (.k (.box cs'))) (hagg:ti.isAgg=true)
  (hl:(cs'.take ti.size).length=ti.size) (hu:σ (.s u)=some (.v (AD x'))) (h:cs=cs'.take ti.size) (h2:x=x'):Gk P [.cell t T,.tmp u] (.tup [.agg cs,AD x]) [] e σ:=
 ⟨he,[.agg ((cs'.drop 0).take ti.size),AD x'],.agg hx hb hagg hl (.tmp rfl hu .nil),by rw[h,h2];rfl,fun p hp=>by cases hp⟩
def GH (r:Rk) (fr e k c:Int):Rk×Int:=
 if rkErr r≠0 then(rkZ,1)
 else if(Dn fr&&decide (fr≠r.node)&&Ux e k&&inR c 1 1023)=false then(rkZ,2)
 else if Ky r e k=false then(rkZ,12)
 else if 65535<=k+c then(rkZ,21)
 else({BO r e with parent:=fr,heard:=k,rank:=k+c},0)
theorem E1 (e k:Int):(Ux e k=true)=((1<=e/\e<=65535)/\0<=k/\k<=65534):=by simp[Ux,inR]
theorem Oy (e k:Int):(Ux e k=false)=¬((1<=e/\e<=65535)/\0<=k/\k<=65534):=by rw[<-E1];simp
theorem Oz (r:Rk) (fr e k c:Int):Ak 190 [rkA r,AI fr,AI e,AI k,AI c] (.tup [rkA (GH r fr e k c).1,AI (GH r fr e k c).2]):=by
 refine Ao func190 ntmps190 results190 fun E hS=>?_
 repeat'(first|refine Af ?_|refine Am (DU r) ?_|refine Am (Ew _) ?_|refine Am (PS _ _) ?_|refine Am (D3 _ _ _) ?_|refine Am (RE r _ _) ?_|refine Am (Ov r _) ?_|(refine HZ rfl ?_ ?_<;>intro h<;>have hq:=h<;>(try simp only[Ajw,Ajx,Int.not_lt,Int.not_le,ne_eq,AjF,Bool.not_eq_true',Bool.not_eq_false',CZ,MC,E1,Oy] at hq))|refine Cy ?_|(refine LG rfl ?_ ?_<;>intro h<;>have hq:=h<;>(try simp only[Ajw,Ajx,Int.not_lt,Int.not_le,ne_eq,AjF,Bool.not_eq_true',Bool.not_eq_false',CZ,MC,E1,Oy] at hq))|fail)
 all_goals try refine CO Ae rfl rfl rfl rfl rfl ?_ ?_
 all_goals try refine CO Ae rfl rfl rfl rfl rfl ?_ ?_
 all_goals unfold GH
 all_goals repeat' split
 all_goals first|rfl|(exfalso;simp_all;done)|(exfalso;omega)|trace_state
def update' (r:Rk) (e k c:Int):Rk×Int:=
 if rkErr r≠0 then(rkZ,1)
 else if(Ux e k&&inR c 1 1023)=false then(rkZ,2)
 else if r.parent=-1 then(rkZ,12)
 else if e<r.epoch then(r,0)
 else if(GH r r.parent e k c).2=0 then((GH r r.parent e k c).1,0)
 else(Gv (BO r e),0)
theorem SP (r:Rk) (e k c:Int):Ak 185 [rkA r,AI e,AI k,AI c] (.tup [rkA (update' r e k c).1,AI (update' r e k c).2]):=by
 refine Ao func185 ntmps185 results185 fun E hS=>?_
 repeat'(first|refine Af ?_|refine Am (DU r) ?_|refine Am (PS _ _) ?_|refine Am (D3 _ _ _) ?_|refine Am (Oz r _ _ _ _) ?_|refine Am (Ov r _) ?_|refine Am (Q7 (BO r e)) ?_|(refine HZ rfl ?_ ?_<;>intro h<;>have hq:=h<;>(try simp only[Ajw,Ajx,Int.not_lt,Int.not_le,ne_eq,AjF,Bool.not_eq_true',Bool.not_eq_false',CZ,MC,E1,Oy] at hq))|refine Cy ?_|(refine LG rfl ?_ ?_<;>intro h<;>have hq:=h<;>(try simp only[Ajw,Ajx,Int.not_lt,Int.not_le,ne_eq,AjF,Bool.not_eq_true',Bool.not_eq_false',CZ,MC,E1,Oy] at hq))|fail)
 all_goals try refine CO Ae rfl rfl rfl rfl rfl ?_ ?_
 all_goals unfold update'
 all_goals repeat' split
 all_goals first|rfl|(exfalso;simp_all;done)|(exfalso;omega)|trace_state
def JZ (a k:Int):Int:=
 if a<0\/k<0\/a<k then 0 else if a<4 then 256 else if k=0 then 1023 else min ((128*a+k-1)/k) 1023
theorem RK (a k:Int) (h:a<=2147483648):Ak 186 [.agg [.d (.int .i64 a),.d (.int .i64 k)]] (AI (JZ a k)):=by
 refine Ao func186 ntmps186 results186 fun E hS=>?_
 repeat'(first|refine Af ?_|(refine Av ?_ ?_<;>intro h hq)|fail)
 all_goals refine Aw Ae rfl ?_
 all_goals unfold JZ
 all_goals repeat' split
 all_goals first|rfl|(exfalso;simp_all;done)|(exfalso;omega)|trace_state
def IW (a b:Int):Int:=if a<b then -1 else if b<a then 1 else 0
theorem Ik (a:Int):Ak 209 [AI a] (AB false):=by
 refine Ao func209 ntmps209 results209 fun E hS=>?_
 repeat'(first|refine Ad ?_|fail)
 all_goals exact Aq Ae rfl (by simp)
theorem Iv (a b:Int):Ak 154 [AI a,AI b] (AI (IW a b)):=by
 refine Ao func154 ntmps154 results154 fun E hS=>?_
 repeat'(first|refine Ad ?_|refine Am (Ik _) ?_|(refine Av ?_ ?_<;>intro h hq)|fail)
 all_goals refine Aw Ae rfl ?_
 all_goals unfold IW
 all_goals repeat' split
 all_goals first|rfl|(exfalso;simp_all;done)|(exfalso;omega)|trace_state
def orI:List Int->Int
 |[]=>0
 |x :: l=>if x≠0 then x else orI l
abbrev ints (l:List Int):D:=Hj (fun x=>[.int .i64 x]) 1 l
theorem Mp:∀(l:List Int) (k:Nat),(∀i,i<k->l.getD i 0=0)->k<=l.length->orI l=orI (l.drop k)
 |l,0,_,_=>rfl
 |[],k+1,_,h=>absurd h (by simp)
 |x :: l,k+1,h,hk=>by
  have h0:x=0:=h 0 (by omega);rw[Alg,<-Mp l k (fun i hi=>h (i+1) (by omega)) (by simpa using hk)];simp[orI,h0]
theorem Tz (l:List Int):Ak 153 [AD (ints l)] (AI (orI l)):=by
 refine Ao func153 ntmps153 results153 fun E hS=>?_
 refine Bz (t:=0) rfl fun hb=>?_
 repeat'(first|refine Af ?_|fail)
 refine Ax (ι:=Nat) (fun k=>AN [(3,AI 0),(6,AD (ints l)),(7,AI l.length),(8,AI k)] []) (fun k=>k<=l.length/\∀i,i<k->l.getD i 0=0) (fun k=>l.length-k) 0 ⟨Ake _,fun i hi=>absurd hi (Aj9 _)⟩ ?_ ?_
 ·exact By ⟨rfl,rfl,rfl,rfl,tt0⟩ trivial rfl
 ·intro k hk
  repeat'(first|refine Af ?_|(refine Av ?_ ?_<;>intro h hq)|fail)
  ·refine Aw Ae rfl ?_;rw[Mp l k hk.2 hk.1,AkV (by omega),orI,Akc]
   ·simp[Ajt];rw[AjC (by omega)];rfl
   ·rw[Ajt,AjC (by omega)] at hq;exact hq
  ·refine⟨k+1,⟨by omega,fun i hi=>?_⟩,by omega,By ⟨rfl,rfl,rfl,rfl,tt0⟩ trivial rfl⟩;by_cases hik:i<k
   ·exact hk.2 i hik
   ·have:i=k:=by omega
    subst this;exact hq
  ·refine Aw Ae rfl ?_;rw[Mp l k hk.2 hk.1,AkQ (by omega)];rfl
def Nb.cs (x:Nb):List C:=[.d (.int .i64 x.node),.d (.int .i64 x.epoch),.d (.int .i64 x.rank),.d (.int .i64 x.slot),.d (.int .i64 x.att),.d (.int .i64 x.ack)]
abbrev nbA (x:Nb):AV:=.agg x.cs
theorem Xc (x:Nb) (t:Int):Ak 251 [nbA x,AI t] (AI (IW x.node t)):=by
 refine Ao func251 ntmps251 results251 fun E hS=>?_
 repeat'(first|refine Ad ?_|refine Am (Iv _ _) ?_|fail)
 all_goals exact AZ
def bs (f:Nat->Bool) (i j:Nat):Nat:=if i<j then(if f ((i+j)/2) then bs f ((i+j)/2+1) j else bs f i ((i+j)/2)) else i
termination_by j-i
decreasing_by all_goals omega
def NH (t:Int) (x:Nb):Int:=IW x.node t
def CG (l:List Nb) (t:Int):Nat:=bs (fun i=>decide (NH t (l.getD i default)<0)) 0 l.length
theorem Ae2 (f:Nat->Bool) (i j:Nat) (h:i<=j):bs f i j<=j:=by
 fun_induction bs f i j with
 |case1 i j hij hf ih=>exact ih (by omega)
 |case2 i j hij hf ih=>exact Akn (ih (by omega)) (by omega)
 |case3=>exact h
def BD (l:List Nb) (t:Int):Bool:=decide (CG l t<l.length)&&decide (NH t (l.getD (CG l t) default)=0)
abbrev ZI:List DV->DV->Prop:=fun ds r=>∃(x:Nb) (t:Int),ds=[.agg x.enc,.d (.int .i64 t)]/\r=.d (.int .i64 (IW x.node t))
theorem S2 (l:List Nb) (t:Int) (hl:l.length<=1000000):Ak 250 [AD (nbs l),AI t,.clo ZI] (.tup [AI (CG l t),AB (BD l t)]):=by
 refine Ao func250 ntmps250 results250 fun E hS=>?_
 repeat'(first|refine Af ?_|fail)
 refine Ax (ι:=Nat×Nat) (fun p=>AN [(0,AD (nbs l)),(1,AI t),(2,.clo ZI),(8,AI l.length),(9,AI p.1),(10,AI p.2)] [])
  (fun p=>p.1<=p.2/\p.2<=l.length/\bs (fun i=>decide (NH t (l.getD i default)<0)) p.1 p.2=CG l t) (fun p=>p.2-p.1) (0,l.length) ⟨Ake _,Akd _,rfl⟩ ?_ ?_
 ·exact By ⟨rfl,rfl,rfl,rfl,rfl,rfl,tt0⟩ trivial rfl
 ·rintro⟨i,j⟩ ⟨h1,h2,h3⟩;dsimp only at h1 h2 h3 ⊢
  repeat'(first|refine Af ?_|refine F4 (⟨_,_,rfl,rfl⟩) (gk rfl) rfl rfl rfl rfl ?_|refine A5 ?_|refine EO (gk rfl) rfl rfl rfl rfl (by omega) rfl ?_|refine A7 ?_|refine P6 (m:=1) (gk rfl) rfl rfl rfl (by decide) rfl ?_|(refine Av ?_ ?_<;>intro h hq)|fail)
  ·have e:(((i:Int)+(j:Int))/2^1).toNat=(i+j)/2:=by omega
   rw[e] at hq;refine⟨((i+j)/2+1,j),⟨by dsimp only;omega,h2,?_⟩,by dsimp only;omega,By ⟨rfl,rfl,rfl,rfl,Aat ?_ rfl,rfl,tt0⟩ trivial rfl⟩
   ·rw[<-h3]
    conv=>rhs;rw[bs,Akc (by omega)]
    rw[Akc];exact Aju hq
   ·congr 1<;>omega
  ·have e:(((i:Int)+(j:Int))/2^1).toNat=(i+j)/2:=by omega
   rw[e] at hq;refine⟨(i,(i+j)/2),⟨by dsimp only;omega,by dsimp only;omega,?_⟩,by dsimp only;omega,By ⟨rfl,rfl,rfl,rfl,rfl,Aat ?_ rfl,tt0⟩ trivial rfl⟩
   ·rw[<-h3]
    conv=>rhs;rw[bs,Akc (by omega)]
    rw[Akb];rw[Ajw];exact Int.not_lt.2 hq
   ·congr 1<;>omega
  all_goals(have e0:CG l t=i:=by
             rw[<-h3,bs,Akb (by omega)])
  all_goals refine IP Ae rfl rfl (by rw[e0]) ?_
  all_goals simp_all [BD,NH]<;>omega
theorem AbP {σ:St} {L:List Nat}:AR Tryz.prog σ L (.fnc 251 []) (.clo ZI):=
 .fnc .nil (enters_of func251 (by kernel_rfl) rfl) (by rintro _ _ ⟨x,t,rfl,rfl⟩;exact⟨rfl,Xc x t⟩)
theorem find_spec (l:List Nb) (t:Int) (hl:l.length<=1000000):Ak 180 [AD (nbs l),AI t] (.tup [AI (CG l t),AB (BD l t)]):=by
 refine Ao func180 ntmps180 results180 fun E hS=>?_
 repeat'(first|refine Ad ?_|refine Kc [] (S2 l _ hl) (gk rfl) rfl (by(repeat'(first|exact .nil|refine .cons ?_ ?_|exact .of0 (.c .d)|exact(AbP)))<;>fail) rfl rfl rfl rfl rfl ?_|fail)
 all_goals exact Bg
structure Lk where
 n:Nb
 idx:Int
 cost:Int
 deriving DecidableEq,Inhabited
def Lk.cs (x:Lk):List C:=[.d (.int .i64 x.n.node),.d (.int .i64 x.n.epoch),.d (.int .i64 x.n.rank),.d (.int .i64 x.n.slot),.d (.int .i64 x.n.att),.d (.int .i64 x.n.ack),.d (.int .i64 x.idx),.d (.int .i64 x.cost)]
def Lk.enc (x:Lk):List D:=[.int .i64 x.n.node,.int .i64 x.n.epoch,.int .i64 x.n.rank,.int .i64 x.n.slot,.int .i64 x.n.att,.int .i64 x.n.ack,.int .i64 x.idx,.int .i64 x.cost]
abbrev lks (l:List Lk):D:=Hj Lk.enc 8 l
abbrev lkA (x:Lk):AV:=.agg x.cs
def Lk.path (x:Lk):Int:=IntKind.i64.wrap (x.n.rank+x.cost)
theorem JK (x:Lk):Ak 189 [lkA x] (AI x.path):=by
 refine Ao func189 ntmps189 results189 fun E hS=>?_
 repeat'(first|refine Ad ?_|refine F2 rfl rfl rfl rfl rfl ?_|fail)
 all_goals exact AZ
def KB (a b:Lk):Int:=orI [IW b.n.epoch a.n.epoch,IW a.path b.path,IW a.n.node b.n.node]
theorem Ut (a b:Lk):Ak 258 [lkA a,lkA b] (AI (KB a b)):=by
 refine Ao func258 ntmps258 results258 fun E hS=>?_
 repeat'(first|refine Ad ?_|refine Am (Iv _ _) ?_|refine Am (JK a) ?_|refine Am (JK b) ?_|refine Kc [24] (Tz [_,_,_]) (gk rfl) rfl (by(repeat'(first|exact .nil|refine .cons ?_ ?_|exact .of0 (.c (M0 (by decide) rfl rfl (by repeat'(first|exact tt0|refine⟨?_,?_⟩|rfl))))))<;>fail) rfl rfl rfl rfl rfl ?_|fail)
 all_goals exact AZ
def JM (l:List Lk):Nat->Lk
 |0=>l.getD 0 default
 |k+1=>if KB (l.getD (k+1) default) (JM l k)<0 then l.getD (k+1) default else JM l k
abbrev PJ:List DV->DV->Prop:=fun ds r=>∃(a b:Lk),ds=[.agg a.enc,.agg b.enc]/\r=.d (.int .i64 (KB a b))
abbrev AcW:List C:=[.d (.int .i64 0),.d (.int .i64 0),.d (.int .i64 0),.d (.int .i64 0),.d (.int .i64 0),.d (.int .i64 0),.d (.int .i64 0),.d (.int .i64 0)]
theorem Abv (l:List Lk) (h0:0<l.length) (hl:l.length<=1000000):Ak 257 [AD (lks l),.clo PJ] (lkA (JM l (l.length-1))):=by
 refine Ao func257 ntmps257 results257 fun E hS=>?_
 repeat'(first|refine Af ?_|(refine Av ?_ ?_<;>intro h hq)|fail)
 ·exfalso;omega
 refine Ax (ι:=Nat×Lk) (fun p=>AN [(0,AD (lks l)),(1,.clo PJ),(4,.c (.ptr 4 0)),(5,.c (.ptr 5 0)),(6,AI (p.1+1:Nat))] [(4,.box AcW),(5,.box p.2.cs)])
  (fun p=>p.1+1<=l.length/\p.2=JM l p.1) (fun p=>l.length-p.1) (0,l.getD 0 default) ⟨by dsimp only;omega,rfl⟩ ?_ ?_
 ·exact By ⟨rfl,rfl,rfl,rfl,rfl,tt0⟩ ⟨rfl,rfl,tt0⟩ rfl
 ·rintro⟨k,m⟩ ⟨h1,h2⟩;dsimp only at h1 h2 ⊢
  repeat'(first|refine Af ?_|refine F4 (⟨_,_,rfl,rfl⟩) (gk rfl) rfl rfl rfl rfl ?_|(refine Av ?_ ?_<;>intro h hq)|fail)
  ·have e:((k+1:Nat):Int).toNat=k+1:=by omega
   refine⟨(k+1,l.getD (k+1) default),⟨by dsimp only;omega,?_⟩,by dsimp only;omega,By ⟨rfl,rfl,rfl,rfl,rfl,tt0⟩ ⟨rfl,rfl,tt0⟩ rfl⟩;rw[JM,<-h2,Akc hq]
  ·refine⟨(k+1,m),⟨by dsimp only;omega,?_⟩,by dsimp only;omega,By ⟨rfl,rfl,rfl,rfl,rfl,tt0⟩ ⟨rfl,rfl,tt0⟩ rfl⟩;rw[JM,<-h2,Akb (by omega)]
  all_goals have e:l.length-1=k:=by omega
  all_goals refine JI Ae rfl rfl rfl rfl ?_
  all_goals rw[e,<-h2]
  all_goals rfl
theorem Bu {l:List Nb} (h:checkNb l=0):l.length<=32/\∀i,i<l.length->Hq l i=0:=by
 unfold checkNb at h
 split at h
 ·cases h
 ·refine⟨by omega,fun i hi=>?_⟩;unfold DQ at h;cases hf:(List.range l.length).find? (fun i=>Hq l i != 0) with
  |none=>
   have:=List.find?_eq_none.1 hf i (Aj2.2 hi);simpa using this
  |some j=>
   rw[hf] at h;have:=List.find?_some hf;simp only[bne_iff_ne,ne_eq] at this;exact absurd h this
theorem CT {l:List Nb} {i:Nat} (h:Hq l i=0):C5 (l.getD i default).node (l.getD i default).epoch (l.getD i default).rank (l.getD i default).slot=true/\(0<=(l.getD i default).att/\(l.getD i default).att<=255) /\
  (0<=(l.getD i default).ack/\(l.getD i default).ack<=(l.getD i default).att):=by
 unfold Hq at h;simp only at h
 split at h
 ·rename_i hh;simp only[AjE,CZ] at hh;exact⟨hh.1.1,hh.1.2,hh.2⟩
 ·cases h
def KM (l:List Nb) (i:Nat):Lk:=⟨l.getD i default,i,JZ (l.getD i default).att (l.getD i default).ack⟩
def Aht (r:Rk) (x:Lk):Bool:=decide (x.n.node≠r.node)&&Ky r x.n.epoch x.n.rank&&decide (x.path<65535)
def EA (l:List Nb) (r:Rk):Nat->List Lk
 |0=>[]
 |k+1=>if Aht r (KM l k)=true then EA l r k++[KM l k] else EA l r k
theorem Rd (l:List Nb) (r:Rk):∀k,(EA l r k).length<=k
 |0=>Akd _
 |k+1=>by
  have:=Rd l r k;unfold EA
  split
  ·simp;omega
  ·omega
theorem Xt {σ:St} {L:List Nat}:AR Tryz.prog σ L (.fnc 258 []) (.clo PJ):=
 .fnc .nil (enters_of func258 (by kernel_rfl) rfl) (by rintro _ _ ⟨a,b,rfl,rfl⟩;exact⟨rfl,Ut a b⟩)
def IX (l:List Nb) (r:Rk):Lk:=JM (EA l r l.length) ((EA l r l.length).length-1)
def WZ (l:List Nb) (r:Rk):Bool:=decide ((EA l r l.length).length≠0)
theorem QE {P:Program} {σ:St} {t u nm:Nat} {T:TypeId} {ti:TyI} {cs cs':List C} {x x':D} {e:Exit} (he:e=.normal\/e=.ret) [ht:AT P T ti] (hx:σ (.s t)=some (.v (.c (.ptr nm 0)))) (hb:σ (.b nm)=some (.k (.box cs'))) (hagg:ti.isAgg=true)
  (hl:(cs'.take ti.size).length=ti.size) (hu:σ (.s u)=some (.v (AD x'))) (h:cs=cs'.take ti.size) (h2:x=x'):Gk P [.cell t T,.tmp u] (.tup [.agg cs,AD x]) [] e σ:=
 CO he hx hb hagg hl hu h h2
theorem Aak (l:List Nb) (r:Rk) (hc:checkNb l=0):Ak 188 [AD (nbs l),rkA r] (.tup [lkA (IX l r),AB (WZ l r)]):=by
 obtain⟨hlen,hall⟩:=Bu hc;refine Ao func188 ntmps188 results188 fun E hS=>?_
 repeat'(first|refine AJ ?_|(show VC _ (.seq (.region _ _ _) _) _ _;refine Dw ?_)|fail)
 refine Et (AN [(3,.c (.ptr 3 0)),(4,.c (.ptr 4 0)),(5,AB false),(6,AD (lks (EA l r l.length)))] [(3,.box r.cs),(4,.box AcW)]) ?_ ?_
 ·repeat'(first|refine Af ?_|fail)
  refine Ax (ι:=Nat×List Lk) (fun p=>AN [(3,.c (.ptr 3 0)),(4,.c (.ptr 4 0)),(5,AB false),(6,.c (.row 44 p.2.length)),(10,AD (nbs l)),(11,AI l.length),(12,AI p.1)] [(3,.box r.cs),(4,.box AcW),(44,.row 253 8 (rowOf Lk.enc p.2))])
   (fun p=>p.1<=l.length/\p.2=EA l r p.1/\p.2.length<=p.1) (fun p=>l.length-p.1) (0,[]) ⟨Ake _,rfl,Ake _⟩ ?_ ?_
  ·exact(le_nil (t:=6) (nm:=44) (T:=253) (sz:=8) rfl rfl).trans (By ⟨rfl,rfl,rfl,rfl,rfl,rfl,rfl,tt0⟩ ⟨rfl,rfl,rfl,tt0⟩ rfl)
  ·rintro⟨k,ls⟩ ⟨h1,h2,h3⟩;dsimp only at h1 h2 h3 ⊢;have hatt:k<l.length->(l.getD k default).att<=255:=fun h=>(CT (hall k h)).2.1.2
   have hrl:(rowOf Lk.enc ls).length=ls.length:=An
   repeat'(first|refine Af ?_|refine GL (RK _ _ (by omega)) (gk rfl) rfl rfl rfl rfl rfl rfl ?_|refine Am (RE r _ _) ?_|refine Am (JK (KM l k)) ?_|refine V0 (gk rfl) rfl rfl rfl (by exact An.symm) (by exact .row rfl (by rfl)) rfl rfl rfl (by(try dsimp only);omega) rfl rfl ?_|(refine Av ?_ ?_<;>intro h hq)|fail)
   ·refine⟨(k+1,ls++[KM l k]),⟨by dsimp only;omega,?_,by simp;omega⟩,by dsimp only;omega,?_⟩
    ·rw[EA,Akc,<-h2]
     simp_all [Aht,KM]
    ·refine DL (fun n=>if n=44 then 100044 else n) [] hS ⟨⟨_,rfl,.c (.ptr rfl)⟩,⟨_,rfl,.c (.ptr rfl)⟩,⟨_,rfl,.c .d⟩,⟨_,rfl,.c (.row rfl (by simp))⟩,⟨_,rfl,.c .d⟩,⟨_,rfl,.c .d⟩,⟨_,rfl,.c .d⟩,tt0⟩
      ⟨⟨_,rfl,.FA rfl rfl⟩,⟨_,rfl,.FA rfl rfl⟩,⟨_,rfl,.CJ (by rw[AF];rfl) Ai⟩,tt0⟩ rfl (by simp only[wfL,AkD,AkJ,Bi];rfl)
   all_goals try (refine⟨(k+1,ls),⟨by dsimp only;omega,?_,by dsimp only;omega⟩,by dsimp only;omega,DL (fun n=>n) [] hS ⟨⟨_,rfl,.c (.ptr rfl)⟩,⟨_,rfl,.c (.ptr rfl)⟩,⟨_,rfl,.c .d⟩,⟨_,rfl,.c (.row rfl rfl)⟩,⟨_,rfl,.c .d⟩,⟨_,rfl,.c .d⟩,⟨_,rfl,.c .d⟩,tt0⟩
      ⟨⟨_,rfl,.FA rfl rfl⟩,⟨_,rfl,.FA rfl rfl⟩,⟨_,rfl,.CJ rfl Ai⟩,tt0⟩ rfl (by simp only[wfL,AkD,AkJ,Bi];rfl)⟩
                  rw[EA,Akb,<-h2]
                  simp_all [Aht,KM])
   ·have e:k=l.length:=by omega
    subst e;subst h2;exact DL (fun n=>n) [44] hS ⟨⟨_,rfl,.c (.ptr rfl)⟩,⟨_,rfl,.c (.ptr rfl)⟩,⟨_,rfl,.c .d⟩,⟨_,rfl,.c (.Bm (by simp) rfl rfl (fun _=>rfl))⟩,tt0⟩ ⟨⟨_,rfl,.FA rfl rfl⟩,⟨_,rfl,.FA rfl rfl⟩,tt0⟩ rfl rfl
 ·have hll:=Rd l r l.length;have hz:decide (((EA l r l.length).length:Int)=0)=false->0<(EA l r l.length).length:=fun h=>by
   have:=AjU h;omega
  repeat'(first|refine Ad ?_|refine Kc [] (Abv (EA l r l.length) (hz (by assumption)) (by omega)) (gk rfl) rfl (by(repeat'(first|exact .nil|refine .cons ?_ ?_|exact .of0 (.c .d)|exact(Xt)))<;>fail) rfl rfl rfl rfl rfl ?_|(refine Av ?_ ?_<;>intro h hq)|fail)
  ·refine QE Ae rfl rfl rfl rfl rfl ?_ ?_
   ·have:EA l r l.length=[]:=Akm (by omega);rw[IX,this];rfl
   ·rw[WZ,Ajv (by omega)]
  ·refine QE Ae rfl rfl rfl rfl rfl rfl ?_;rw[WZ,Aju (by omega)]
end Go.Proofs.P
