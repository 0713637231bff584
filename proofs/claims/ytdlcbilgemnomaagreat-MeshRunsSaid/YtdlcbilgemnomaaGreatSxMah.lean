/-
  Functions' results, and laws on them. No condition.
-/
import Derived.Test.YtdlcbilgemnomaaGreatSxMaf
set_option linter.unusedSimpArgs false
set_option linter.unusedVariables false
set_option maxHeartbeats 16000000
open Go.Proofs.Tryz
namespace Go.Proofs
open Go Go.Sx Go.Proofs.T Go.Proofs.Q
set_option maxRecDepth 4000
attribute [local irreducible] VR VC thenQ blockQ retL
theorem Ew (n:Int):Ak 77 [AI n] (AB (decide (0<=n/\n<=31))):=by
 refine Ao func77 ntmps77 results77 fun E hS=>?_
 repeat'(first|refine Ad ?_|(refine Av ?_ ?_<;>intro h hq)|fail)
 ·refine Aq Ae rfl ?_;exact decide_eq_decide.2 (by omega)
 ·refine Aq Ae rfl ?_;exact Ajv (by omega)
theorem Gu (n:Int):Ak 78 [AI n] (AB (decide (0<=n/\n<=255))):=by
 refine Ao func78 ntmps78 results78 fun E hS=>?_
 repeat'(first|refine Ad ?_|(refine Av ?_ ?_<;>intro h hq)|fail)
 ·refine Aq Ae rfl ?_;exact decide_eq_decide.2 (by omega)
 ·refine Aq Ae rfl ?_;exact Ajv (by omega)
def Pt (h:Hd):Int:=if Ex h=false then 2 else if 100<h.data.size then 8 else 0
theorem Zq {h:Hd} (hb:¬(0<=h.BR/\h.BR<=255/\0<=h.frame/\h.frame<=65535/\0<=h.til/\h.til<=109951162)):Pt h=2:=by
 rw[Pt,Akc];rw[Ex,Ajv hb];rfl
theorem AbG {h:Hd} (hb:0<=h.BR/\h.BR<=255/\0<=h.frame/\h.frame<=65535/\0<=h.til/\h.til<=109951162):Pt h=if C4 h.AH=false then 2 else if 100<h.data.size then 8 else 0:=by
 rw[Pt,Ex,Aju hb];rfl
theorem WT (x:Hd):Ak 76 [hdA x] (AI (Pt x)):=by
 refine Ao func76 ntmps76 results76 fun E hS=>?_
 repeat'(first|refine AJ ?_|refine Aa (Gu _) ?_|refine sq 4 rfl ?_|refine BN ?_|(refine Av ?_ ?_<;>intro h hq)|fail)
 all_goals first
  |(refine Aw Ae rfl ?_
    exact Zq (by omega))
  |skip
 have hb:0<=x.BR/\x.BR<=255/\0<=x.frame/\x.frame<=65535/\0<=x.til/\x.til<=109951162:=by omega
 rw[AbG hb];refine Gi [(1,.c (.ptr 1 0)),(3,AI 0)] [(1,.box x.cs)] ?_;refine DJ (nm:=1) (j:=4) (n:=x.AH.length) rfl rfl fun hbl=>?_
 refine Ax (ι:=Nat) (fun k=>AN [(1,.c (.ptr 1 0)),(3,AI k)] [(1,.box x.cs)]) (fun k=>k<=x.AH.length/\∀i,i<k->AiA x.AH i=false) (fun k=>x.AH.length-k) 0 ⟨Ake _,fun i hi=>absurd hi (Aj9 _)⟩ ?_ ?_
 ·exact Al
 ·intro k hk
  repeat'(first|refine Af ?_|refine Aa (Ew _) ?_|refine A5 ?_|refine BZ (gk rfl) rfl rfl rfl rfl rfl (by omega) rfl ?_|(refine Av ?_ ?_<;>intro h hq)|fail)
  ·have hr:C4 x.AH=false:=by rw[C4,Hi (k:=k) (by omega) (Aju (by omega))];rfl
   rw[Akc hr];exact AZ
  ·have hr:C4 x.AH=false:=by rw[C4,Hi (k:=k) (by omega) (Aju (by omega))];rfl
   rw[Akc hr];exact AZ
  ·refine⟨k+1,⟨by omega,fun i hi=>?_⟩,by omega,?_⟩
   ·by_cases hik:i<k
    ·exact hk.2 i hik
    ·have:i=k:=by omega
     subst this;exact Ajv (by omega)
   ·exact Al
  ·refine⟨k+1,⟨by omega,fun i hi=>?_⟩,by omega,?_⟩
   ·by_cases hik:i<k
    ·exact hk.2 i hik
    ·have:i=k:=by omega
     subst this;exact Ajv (by omega)
   ·exact Al
  ·have hr:C4 x.AH=true:=by rw[C4,DB fun i hi=>hk.2 i (by omega)];rfl
   rw[Akb (by rw[hr];simp),Akc (by omega)];exact AZ
  ·have hr:C4 x.AH=true:=by rw[C4,DB fun i hi=>hk.2 i (by omega)];rfl
   rw[Akb (by rw[hr];simp),Akb (by omega)];exact AZ
theorem N5 (n:Int) (hn:0<=n/\n<=5):Ak 79 [AI n] (AI (2^n.toNat)):=by
 refine Ao func79 ntmps79 results79 fun E hS=>?_
 repeat'(first|refine Af ?_|fail)
 refine Er n.toNat (fun k=>AN [(0,AI n),(3,AI (2^k)),(4,AI k)] []) ?_ ?_
 ·exact Al
 ·intro k hk;have hp:(2:Int)^k<=32/\1<=(2:Int)^k:=by
   have:k=0\/k=1\/k=2\/k=3\/k=4\/k=5:=by omega
   rcases this with rfl|rfl|rfl|rfl|rfl|rfl<;>decide
  have e:(2:Int)^(k+1)=2*2^k:=by rw[Int.pow_succ,Int.mul_comm]
  repeat'(first|refine Af ?_|(refine Av ?_ ?_<;>intro h hq)|fail)
  ·refine BU (k+1) ?_;rw[e];exact Al
  ·have hk':k=n.toNat:=by omega
   rw[hk'];exact AZ
theorem Rq (x:Hd):Pt x=0↔¬(Ex x=false\/100<x.data.size):=by
 unfold Pt
 split
 ·simp_all
 ·split<;>simp_all
theorem Ow {l:List Hd} {k:Nat} (h:¬Pt (l.getD k default)=0\/(0<k/\(l.getD k default).BR<=(l.getD (k-1) default).BR)):Xv l k=true:=by
 refine Aju ?_;rcases h with h|h
 ·have h2:=fun h3=>h ((Rq _).2 h3)
  rcases Classical.not_not.1 h2 with h4|h4
  ·exact .inl h4
  ·exact .inr (.inl h4)
 ·exact .inr (.inr h)
theorem Nf {l:List Hd} {k:Nat} (h:Pt (l.getD k default)=0) (h2:¬(0<k/\(l.getD k default).BR<=(l.getD (k-1) default).BR)):Xv l k=false:=by
 refine Ajv ?_;have h3:=(Rq _).1 h;rintro(h4|h4|h4)
 ·exact h3 (.inl h4)
 ·exact h3 (.inr h4)
 ·exact h2 h4
theorem Rt {l:List Hd} {k:Nat} (hk:k<l.length) (h:Xv l k=true):F0 l=false:=by
 unfold F0;rw[Hi hk h];simp
theorem Yd {l:List Sn} {k:Nat} (hk:k<l.length) (h:Ace l k=true):Gn l=false:=by
 unfold Gn;rw[Hi hk h];rfl
theorem Ba {s:Sta} (h:AU s=0):BV s.tb=0/\Br s.qu=0/\(∀p∈s.qu.Ab,VB s.tb.node p=false)/\F0 s.held=true/\Gn s.seen=true/\I4 s=true/\Ti s=true:=by
 unfold AU at h
 split at h
 ·rename_i hk;simp only[okS,CS,AjE,Ajw] at hk;obtain⟨⟨⟨⟨⟨h1,h2,h3⟩,h4⟩,h5⟩,h6⟩,h7⟩:=hk;refine⟨h1,h2,fun p hp=>?_,h4,h5,h6,h7⟩;simp only[Bool.not_eq_true'] at h3;have:=(AjN.1 h3) p hp;simpa using this
 ·cases h
theorem KF {n:Nat} {p:Nat->Bool} (h:(List.range n).any p=false) {i:Nat} (hi:i<n):p i=false:=by
 have:=(AjN.1 h) i (Aj2.2 hi);simpa using this
theorem Ds {l:List Hd} (h:F0 l=true):l.length<=16/\∀i,i<l.length->Ex (l.getD i default)=true/\(l.getD i default).data.size<=100/\(0<i->(l.getD (i-1) default).BR<(l.getD i default).BR):=by
 simp only[F0,AjE,Bool.not_eq_true',Ajw] at h;refine⟨by omega,fun i hi=>?_⟩;have:=AjU (KF h.1 hi);refine⟨?_,?_,fun h0=>?_⟩
 ·cases hr:Ex (l.getD i default) with
  |true=>rfl
  |false=>exact absurd (.inl hr) this
 ·exact Nat.le_of_not_lt fun h2=>this (.inr (.inl h2))
 ·exact Int.lt_of_not_ge fun h2=>this (.inr (.inr ⟨h0,h2⟩))
theorem DE {h:Hd} (hr:Ex h=true):0<=h.BR/\h.BR<=255/\0<=h.frame/\h.frame<=65535/\0<=h.til/\h.til<=109951162/\C4 h.AH=true:=by
 simp only[Ex,AjE,Ajw] at hr;obtain⟨⟨h1,h2,h3,h4,h5,h6⟩,h7⟩:=hr;exact⟨h1,h2,h3,h4,h5,h6,h7⟩
def zAc:Ac:=⟨0,0,0,0,0,0,0,0,0,0,0,0,0,⟨#[]⟩⟩
def zUp:Up:=⟨false,false,0,0,0,0,0,0,0,0,0,0,0,⟨#[]⟩⟩
def noS:Sta:=⟨⟨0,0,[]⟩,⟨0,[]⟩,[],[],0,0,0,0,0,0,0⟩
def Kv (l:List Hd) (BR:Int):Option Nat:=Ft l fun h=>decide (h.BR=BR)
def Xz (t:Tb) (to:Int):Bool:=t.cells.any fun c=>decide (c.kind=2)&&c.send&&decide (c.peer=to)
def EF (s:Sta):Option Nat:=Ft s.qu.Ab fun p=>decide (p.to=-1)||!Xz s.tb p.to
def YA (s:Sta) (o:Option Nat):Pk:=match o with|none=>noP|some i=>s.qu.Ab.getD i default
def Aez:Ac:={zAc with kind:=2}
def Afj (s:Sta) (p:Pk):Ac:=⟨1,0,4,s.tb.node,p.to,s.list,s.seq,0,0,0,0,0,0,p.data⟩
def AhA (s:Sta) (c:TC) (h:Hd):Ac:=⟨1,0,1,s.tb.node,c.peer,s.list,h.frame % 256,h.BR,h.frame,0,0,0,0,h.data⟩
def RJ (s:Sta) (slot:Int) (c:TC):Ac:=if c.send=false then Aez else match Kv s.held c.BR with
 |none=>zAc
 |some i=>if(s.held.getD i default).til<slot\/((s.held.getD i default).AH.any fun y=>decide (c.peer=y))=true then zAc else AhA s c (s.held.getD i default)
def XA (s:Sta) (c:TC):Ac:=if c.send=false then Aez else if(C1 s.qu c.peer).2=true then Afj s (C1 s.qu c.peer).1 else zAc
def XB (s:Sta):Ac:=if(EF s).isSome=true/\s.wait=0 then Afj s (YA s (EF s)) else Aez
def GU (s:Sta) (slot:Int) (c:TC):Ac:=if c.kind=1 then RJ s slot c else if c.kind=2 then XA s c else if c.kind=3 then XB s else zAc
def QX (a:Ac) (o:Int):Ac:=if a.kind=0 then a else{a with offset:=o}
def CA (s:Sta) (slot:Int) (c:TC):Ac:=QX (GU s slot c) c.offset
def Hs (s:Sta) (slot:Int):Ac×Int:=if AU s≠0 then(zAc,1) else if slot<0\/109951162<slot then(zAc,2) else(CA s slot (atM s.tb slot).1,0)
def Fi (s:Sta) (id:Int):Sta:={s with qu:=(Ke s.qu id).1,seq:=(s.seq+1) % 256,A6:=-1,tries:=0}
def BG (s:Sta) (c:TC):Pk:=if c.kind=3 then YA s (EF s) else(C1 s.qu c.peer).1
def CK (s:Sta) (c:TC):Int:=if s.A6=(BG s c).id then s.tries+1 else 1
def TZ (s:Sta) (c:TC) (AH:Bool):Sta:=if c.kind=3 then{Fi s (BG s c).id with back:=0,wait:=0} else Fi s (BG s c).id
def Bw (x:Int):Int:=(1103515245*x+12345) % 2147483648
def AiB (s:Sta) (c:TC):Sta:={s with A6:=(BG s c).id,tries:=CK s c,back:=min (s.back+1) 5,Cq:=Bw s.Cq}
def Nm (s:Sta) (c:TC):Sta:=if c.kind=3 then{AiB s c with wait:=Bw s.Cq/65536 % 2^(min (s.back+1) 5).toNat}
 else{s with A6:=(BG s c).id,tries:=CK s c}
def Cm (s:Sta) (c:TC) (AH:Bool):Sta:=
 if(BG s c).to=-1 then Fi s (BG s c).id else if AH=true\/4<=CK s c then TZ s c AH else Nm s c
def Sq (f:Fr) (new:Bool):Up:=⟨true,new,f.kind,f.source,f.target,f.list,f.seq,f.BR,f.number,f.err,f.slot,f.rank,f.epoch,f.data⟩
def IH (r:Rs):Fr:=⟨r.BM,r.source,r.target,r.list,r.seq,r.BR,r.number,r.err,r.slot,r.rank,r.epoch,r.data⟩
def Dl (s:Sta):Sta:=if 0<=s.A6/\hasB s.qu.Ab s.A6=false then{s with A6:=-1,tries:=0} else s
def Ia (s:Sta) (p:Pk):Sta×List Pk×Int:=if AU s≠0 then(noS,[],1) else if(DP s.qu p).2.2≠0 then(noS,[],(DP s.qu p).2.2)
 else if p.to=s.tb.node then(noS,[],12) else if 100<p.data.size then(noS,[],8) else(Dl {s with qu:=(DP s.qu p).1},(DP s.qu p).2.1,0)
def Cj (s:Sta) (slot:Int):Sta×List Pk×Int:=if AU s≠0 then(noS,[],1) else if slot<0\/109951162<slot then(noS,[],2)
 else(Dl {s with held:=s.held.filter fun h=>!decide (h.til<slot),qu:=(BX s.qu slot).1},(BX s.qu slot).2,0)
def IG (t:Tb) (Be Cq:Int):Sta×Int:=if BV t≠0 then(noS,1) else if Be<1\/64<Be\/Cq<0\/2147483647<Cq then(noS,2) else(⟨t,⟨Be,[]⟩,[],[],0,0,-1,0,0,0,Cq⟩,0)
theorem JW (n m:Int):Ak 233 [AI n,AI m] (AB (decide (0<=n/\n<=m))):=by
 refine Ao func233 ntmps233 results233 fun E hS=>?_
 repeat'(first|refine Ad ?_|(refine Av ?_ ?_<;>intro h hq)|fail)
 ·refine Aq Ae rfl ?_;exact decide_eq_decide.2 (by omega)
 ·refine Aq Ae rfl ?_;exact Ajv (by omega)
theorem WR (n:Int):Ak 282 [AI n] (AB (decide (-32768<=n/\n<=32767))):=by
 refine Ao func282 ntmps282 results282 fun E hS=>?_
 repeat'(first|refine Ad ?_|(refine Av ?_ ?_<;>intro h hq)|fail)
 ·refine Aq Ae rfl ?_;exact decide_eq_decide.2 (by omega)
 ·refine Aq Ae rfl ?_;exact Ajv (by omega)
theorem Kt (f:Fr):Ak 281 [frA f] (AB (decide (0<=f.target/\f.target<=31/\f.target≠f.source))):=by
 refine Ao func281 ntmps281 results281 fun E hS=>?_
 repeat'(first|refine Ad ?_|refine Aa (JW _ _) ?_|(refine Av ?_ ?_<;>intro h hq)|fail)
 ·refine Aq Ae rfl ?_;exact decide_eq_decide.2 (by omega)
 ·refine Aq Ae rfl ?_;exact Ajv (by omega)
def DZ (f:Fr):Fr×Bool:=
 if f.kind=1 then({f with BR:=0,number:=0,data:=⟨#[]⟩},decide ((0<=f.target/\f.target<=31/\f.target≠f.source)/\(0<=f.BR/\f.BR<=255)/\0<=f.number/\f.number<=65535))
 else if f.kind=2 then({f with err:=0},decide ((0<=f.target/\f.target<=31/\f.target≠f.source)/\-32768<=f.err/\f.err<=32767))
 else if f.kind=3 then({f with slot:=0,rank:=0,epoch:=0,data:=⟨#[]⟩},decide (f.target=-1/\(0<=f.slot/\f.slot<=109951162)/\(0<=f.rank/\f.rank<=65535)/\0<=f.epoch/\f.epoch<=65535))
 else if f.kind=4 then({f with data:=⟨#[]⟩},decide (f.target=-1\/(0<=f.target/\f.target<=31/\f.target≠f.source)))
 else(f,false)
theorem T8 (f:Fr):Ak 232 [frA f] (.tup [frA (DZ f).1,AB (DZ f).2]):=by
 refine Ao func232 ntmps232 results232 fun E hS=>?_
 by_cases h1:f.kind=1
 ·have d1:=Aju h1;rw[DZ,Akc h1]
  repeat'(first|refine Af ?_|refine Aa (JW _ _) ?_|refine Aa (Kt f) ?_|(refine Av ?_ ?_<;>intro h hq)|fail)
  all_goals
   refine Gr Ae rfl rfl rfl rfl rfl rfl (congrArg D.bool ?_)
   first|exact decide_eq_decide.2 (by omega)|exact Ajv (by omega)|exact Aju (by omega)
 have d1:=Ajv h1;by_cases h2:f.kind=2
 ·have d2:=Aju h2;rw[DZ,Akb h1,Akc h2]
  repeat'(first|refine Af ?_|refine Aa (WR _) ?_|refine Aa (Kt f) ?_|(refine Av ?_ ?_<;>intro h hq)|fail)
  all_goals
   refine Gr Ae rfl rfl rfl rfl rfl rfl (congrArg D.bool ?_)
   first|exact decide_eq_decide.2 (by omega)|exact Ajv (by omega)|exact Aju (by omega)
 have d2:=Ajv h2;by_cases h3:f.kind=3
 ·have d3:=Aju h3;rw[DZ,Akb h1,Akb h2,Akc h3]
  repeat'(first|refine Af ?_|refine Aa (JW _ _) ?_|(refine Av ?_ ?_<;>intro h hq)|fail)
  all_goals
   refine Gr Ae rfl rfl rfl rfl rfl rfl (congrArg D.bool ?_)
   first|exact decide_eq_decide.2 (by omega)|exact Ajv (by omega)|exact Aju (by omega)
 have d3:=Ajv h3;by_cases h4:f.kind=4
 ·have d4:=Aju h4;rw[DZ,Akb h1,Akb h2,Akb h3,Akc h4]
  repeat'(first|refine Af ?_|refine Aa (Kt f) ?_|(refine Av ?_ ?_<;>intro h hq)|fail)
  all_goals
   refine Gr Ae rfl rfl rfl rfl rfl rfl (congrArg D.bool ?_)
   first|exact decide_eq_decide.2 (by omega)|exact Ajv (by omega)|exact Aju (by omega)
 have d4:=Ajv h4;rw[DZ,Akb h1,Akb h2,Akb h3,Akb h4]
 repeat'(first|refine Af ?_|fail)
 exact Aj
def VS (f:Fr):Fr:=⟨f.kind,f.source,f.target,f.list,f.seq,0,0,0,0,0,0,⟨#[]⟩⟩
def inS (f:Fr):Bool:=decide ((0<=f.source/\f.source<=31)/\(0<=f.list/\f.list<=255)/\0<=f.seq/\f.seq<=255)
def Fk (f:Fr):Int:=if(DZ f).2=true/\(DZ f).1=VS f/\inS f=true then 0 else 1
theorem Nc (f:Fr):Ak 168 [frA f] (AI (Fk f)):=by
 refine Ao func168 ntmps168 results168 fun E hS=>?_
 repeat'(first|refine Ad ?_|refine Aa (T8 f) ?_|refine Aa (JW _ _) ?_|refine Gc (gk rfl) rfl rfl rfl rfl rfl rfl rfl ?_|(refine Av ?_ ?_<;>intro h hq)|fail)
 ·exact Aw Ae rfl (Akb fun hh=>by rw[hq] at hh;cases hh.1)
 ·exact Aw Ae rfl (Akb fun hh=>hq (Aip hh.2.1))
 ·exact Aw Ae rfl (Akb fun hh=>by have:=AjT hh.2.2;omega)
 ·exact Aw Ae rfl (Akb fun hh=>by have:=AjT hh.2.2;omega)
 ·exact Aw Ae rfl (Akb fun hh=>by have:=AjT hh.2.2;omega)
 ·exact Aw Ae rfl (Akc ⟨by assumption,Aiq (x:=(DZ f).1) (y:=VS f) (by assumption),Aju ⟨by assumption,by assumption,by assumption⟩⟩)
def ML (f:Fr) (node:Int):Bool:=decide (Fk f=0)&&decide (0<=node/\node<=31/\(f.target=node\/f.target=-1/\f.source≠node))
theorem Ha (f:Fr) (node:Int):Ak 245 [frA f,AI node] (AB (ML f node)):=by
 refine Ao func245 ntmps245 results245 fun E hS=>?_
 repeat'(first|refine Ad ?_|refine Aa (Nc f) ?_|refine Aa (JW _ _) ?_|(refine Av ?_ ?_<;>intro h hq)|fail)
 all_goals
  refine Aq Ae rfl ?_;unfold ML
  first
   |(rw[Ajv (p:=Fk f=0) (by assumption)];rfl)
   |(rw[Aju (p:=Fk f=0) (by assumption)]
     first|exact Aju (by omega)|exact Ajv (by omega)|exact decide_eq_decide.2 (by omega))
abbrev SR (f:Fr):Prop:=0<=f.target/\f.target<=31/\f.target≠f.source
abbrev inP (f:Fr):Prop:=(0<=f.source/\f.source<=31)/\(0<=f.list/\f.list<=255)/\0<=f.seq/\f.seq<=255
abbrev okP (f:Fr):Prop:=inP f/\((f.kind=1/\SR f/\(0<=f.BR/\f.BR<=255)/\(0<=f.number/\f.number<=65535)/\f.err=0/\f.slot=0/\f.rank=0/\f.epoch=0)
 \/ (f.kind=2/\SR f/\(-32768<=f.err/\f.err<=32767)/\f.BR=0/\f.number=0/\f.slot=0/\f.rank=0/\f.epoch=0/\f.data=⟨#[]⟩)
 \/ (f.kind=3/\f.target=-1/\(0<=f.slot/\f.slot<=109951162)/\(0<=f.rank/\f.rank<=65535)/\(0<=f.epoch/\f.epoch<=65535)/\f.BR=0/\f.number=0/\f.err=0)
 \/ (f.kind=4/\(f.target=-1\/SR f)/\f.BR=0/\f.number=0/\f.err=0/\f.slot=0/\f.rank=0/\f.epoch=0))
theorem Fy (f:Fr):Fk f=0↔okP f:=by
 have hd:∀{p:Prop} [Decidable p],(if p then(0:Int) else 1)=0↔p:=fun{p} _=>by split<;>simp_all
 unfold Fk;rw[hd];unfold okP inP SR inS;obtain⟨kind,source,target,list,seq,BR,number,err,slot,rank,epoch,data⟩:=f;by_cases h1:kind=1
 ·subst h1;simp only[DZ,VS,Akc,Fr.mk.injEq,Ajw,true_and,and_true];constructor
  ·rintro⟨h,h2,h3⟩;exact⟨h3,.inl ⟨h.1,h.2.1,h.2.2,by omega,by omega,by omega,by omega⟩⟩
  ·rintro⟨h3,h|h|h|h⟩
   ·exact⟨⟨h.1,h.2.1,h.2.2.1⟩,by omega,h3⟩
   ·exact absurd h.1 (by decide)
   ·exact absurd h.1 (by decide)
   ·exact absurd h.1 (by decide)
 by_cases h2:kind=2
 ·subst h2;simp only[DZ,VS,Akc,Akb (show ¬(2:Int)=1 by decide),Fr.mk.injEq,Ajw,true_and,and_true];constructor
  ·rintro⟨h,h2,h3⟩;exact⟨h3,.inr (.inl ⟨h.1,h.2,h2.1,h2.2.1,h2.2.2.1,h2.2.2.2.1,h2.2.2.2.2.1,h2.2.2.2.2.2⟩)⟩
  ·rintro⟨h3,h|h|h|h⟩
   ·exact absurd h.1 (by decide)
   ·exact⟨⟨h.1,h.2.1⟩,h.2.2,h3⟩
   ·exact absurd h.1 (by decide)
   ·exact absurd h.1 (by decide)
 by_cases h3:kind=3
 ·subst h3;simp only[DZ,VS,Akc,Akb (show ¬(3:Int)=1 by decide),Akb (show ¬(3:Int)=2 by decide),Fr.mk.injEq,Ajw,true_and,and_true];constructor
  ·rintro⟨h,h2,h3⟩;exact⟨h3,.inr (.inr (.inl ⟨h.1,h.2.1,h.2.2.1,h.2.2.2,by omega,by omega,by omega⟩))⟩
  ·rintro⟨h3,h|h|h|h⟩
   ·exact absurd h.1 (by decide)
   ·exact absurd h.1 (by decide)
   ·exact⟨⟨h.1,h.2.1,h.2.2.1,h.2.2.2.1⟩,by omega,h3⟩
   ·exact absurd h.1 (by decide)
 by_cases h4:kind=4
 ·subst h4;simp only[DZ,VS,Akc,Akb (show ¬(4:Int)=1 by decide),Akb (show ¬(4:Int)=2 by decide),Akb (show ¬(4:Int)=3 by decide),Fr.mk.injEq,Ajw,true_and,and_true];constructor
  ·rintro⟨h,h2,h3⟩;exact⟨h3,.inr (.inr (.inr ⟨h,by omega,by omega,by omega,by omega,by omega,by omega⟩))⟩
  ·rintro⟨h3,h|h|h|h⟩
   ·exact absurd h.1 (by decide)
   ·exact absurd h.1 (by decide)
   ·exact absurd h.1 (by decide)
   ·exact⟨h.1,by omega,h3⟩
 ·simp[DZ,Akb h1,Akb h2,Akb h3,Akb h4];intros;omega
def Ajc (s:Sta) (slot:Int) (c:TC):List D:=[.int .i64 s.tb.node,.int .i64 s.tb.len,tcs s.tb.cells,.int .i64 s.qu.Be,pks s.qu.Ab,hds s.held,sns s.seen,
 .int .i64 s.list,.int .i64 s.seq,.int .i64 s.A6,.int .i64 s.tries,.int .i64 s.back,.int .i64 s.wait,.int .i64 s.Cq,.int .i64 slot,
 .int .i64 c.slot,.int .i64 c.offset,.int .i64 c.kind,.bool c.send,.int .i64 c.peer,.int .i64 c.BR]
abbrev wG (s:Sta) (slot:Int) (c:TC):Nat->D:=fun j=>(Ajc s slot c).getD j .Df
abbrev wP (s:Sta) (slot:Int) (c:TC):AV:=AD (.pt 21 (wG s slot c))
def wcs (s:Sta) (H S:C) (slot:Int) (c:TC):List C:=[.d (.int .i64 s.tb.node),.d (.int .i64 s.tb.len),.d (tcs s.tb.cells),.d (.int .i64 s.qu.Be),.d (pks s.qu.Ab),H,S,
 .d (.int .i64 s.list),.d (.int .i64 s.seq),.d (.int .i64 s.A6),.d (.int .i64 s.tries),.d (.int .i64 s.back),.d (.int .i64 s.wait),.d (.int .i64 s.Cq),.d (.int .i64 slot),
 .d (.int .i64 c.slot),.d (.int .i64 c.offset),.d (.int .i64 c.kind),.d (.bool c.send),.d (.int .i64 c.peer),.d (.int .i64 c.BR)]
theorem Afw {σ:St} {L:List Nat} {nm:Nat} {s:Sta} {H S:C} {slot:Int} {c:TC} (hL:nm∈L) (hb:σ (.b nm)=some (.k (.box (wcs s H S slot c)))) (hH:CR σ L H (.d (hds s.held))) (hS:CR σ L S (.d (sns s.seen))):
  AR Tryz.prog σ L (.c (.ptr nm 0)) (wP s slot c):=by
 refine .of0 (.c (.Ahr hL hb (cf:=fun j=>(wcs s H S slot c).getD j (.d .Df)) (fun j hj=>?_) (fun j hj=>?_)))
 ·have:j=0\/j=1\/j=2\/j=3\/j=4\/j=5\/j=6\/j=7\/j=8\/j=9\/j=10\/j=11\/j=12\/j=13\/j=14\/j=15\/j=16\/j=17\/j=18\/j=19\/j=20:=by omega
  rcases this with rfl|rfl|rfl|rfl|rfl|rfl|rfl|rfl|rfl|rfl|rfl|rfl|rfl|rfl|rfl|rfl|rfl|rfl|rfl|rfl|rfl<;>rfl
 ·have:j=0\/j=1\/j=2\/j=3\/j=4\/j=5\/j=6\/j=7\/j=8\/j=9\/j=10\/j=11\/j=12\/j=13\/j=14\/j=15\/j=16\/j=17\/j=18\/j=19\/j=20:=by omega
  rcases this with rfl|rfl|rfl|rfl|rfl|rfl|rfl|rfl|rfl|rfl|rfl|rfl|rfl|rfl|rfl|rfl|rfl|rfl|rfl|rfl|rfl<;>first|exact .d|exact hH|exact hS
abbrev F9 (p:Hd->Bool):List DV->DV->Prop:=fun ds r=>∃x:Hd,ds=[.agg x.enc]/\r=.d (.bool (p x))
theorem Zj (l:List Hd) (p:Hd->Bool):Ak 217 [AD (hds l),.clo (F9 p)] (AI (oI (Ft l p))):=by
 refine Ao func217 ntmps217 results217 fun E hS=>?_
 refine Bz (t:=0) rfl fun hb=>?_
 repeat'(first|refine Af ?_|fail)
 refine Ax (ι:=Nat) (fun k=>AN [(0,AD (hds l)),(1,.clo (F9 p)),(7,AI l.length),(8,AI k)] []) (fun k=>k<=l.length/\∀i,i<k->p (l.getD i default)=false) (fun k=>l.length-k) 0 ⟨Ake _,fun i hi=>absurd hi (Aj9 _)⟩ ?_ ?_
 ·exact By ⟨rfl,rfl,rfl,rfl,tt0⟩ trivial rfl
 ·intro k hk
  repeat'(first|refine Af ?_|refine F4 (⟨_,rfl,rfl⟩) (gk rfl) rfl rfl rfl rfl ?_|(refine Av ?_ ?_<;>intro h hq)|fail)
  ·refine Aw Ae rfl ?_;rw[C2 hk.2 (by omega) h];rfl
  ·refine⟨k+1,⟨by omega,fun i hi=>?_⟩,by omega,By ⟨rfl,rfl,rfl,rfl,tt0⟩ trivial rfl⟩;by_cases hik:i<k
   ·exact hk.2 i hik
   ·have:i=k:=by omega
    subst this;exact h
  ·refine Aw Ae rfl ?_;have:k=l.length:=by omega
   subst this;rw[CF hk.2];rfl
theorem TR (x:Hd) (t:Int):Ak 237 [hdA x,.ep (fun _=>.int .i64 t) 1] (AB (decide (x.BR=t))):=by
 refine Ao func237 ntmps237 results237 fun E hS=>?_
 repeat'(first|refine Ad ?_|fail)
 all_goals exact AO
theorem WS {σ:St} {t:Int} {n1:Nat} {L:List Nat} (hL:n1∈L) (h1:σ (.b n1)=some (.k (.box [.d (.int .i64 t)]))):AR Tryz.prog σ L (.fnc 237 [.ptr n1 0]) (.clo (F9 fun x=>decide (x.BR=t))):=
 .fnc (eps:=[.ep (fun _=>.int .i64 t) 1]) (.cons (.ptr hL h1 (fun j hj=>by
  have:j=0:=by omega
  subst this;rfl)) .nil) (enters_of func237 (by kernel_rfl) rfl)
  (by rintro _ _ ⟨x,rfl,rfl⟩;exact⟨rfl,TR x t⟩)
theorem Ku (s:Sta) (slot:Int) (c:TC) (BR:Int):Ak 175 [wP s slot c,AI BR] (AI (oI (Kv s.held BR))):=by
 refine Ao func175 ntmps175 results175 fun E hS=>?_
 repeat'(first|refine Ad ?_|refine Bl (gk rfl) rfl rfl ?_|refine A9 (gk rfl) rfl rfl rfl rfl rfl ?_|refine Cd [3] (Zj s.held (fun x=>decide (x.BR=BR))) (gk rfl) rfl (by(repeat'(first|exact .nil|refine .cons ?_ ?_|exact .of0 (.c .d)|exact(WS (by simp) rfl)))<;>fail) (by rfl) rfl (by rfl) rfl (by rfl) rfl ?_|fail)
 all_goals exact AZ
abbrev Ll (p:TC->Bool):List DV->DV->Prop:=fun ds r=>∃x:TC,ds=[.agg x.enc]/\r=.d (.bool (p x))
theorem AeH (l:List TC) (p:TC->Bool):Ak 291 [AD (tcs l),.clo (Ll p)] (AI (oI (Ft l p))):=by
 refine Ao func291 ntmps291 results291 fun E hS=>?_
 refine Bz (t:=0) rfl fun hb=>?_
 repeat'(first|refine Af ?_|fail)
 refine Ax (ι:=Nat) (fun k=>AN [(0,AD (tcs l)),(1,.clo (Ll p)),(7,AI l.length),(8,AI k)] []) (fun k=>k<=l.length/\∀i,i<k->p (l.getD i default)=false) (fun k=>l.length-k) 0 ⟨Ake _,fun i hi=>absurd hi (Aj9 _)⟩ ?_ ?_
 ·exact By ⟨rfl,rfl,rfl,rfl,tt0⟩ trivial rfl
 ·intro k hk
  repeat'(first|refine Af ?_|refine F4 (⟨_,rfl,rfl⟩) (gk rfl) rfl rfl rfl rfl ?_|(refine Av ?_ ?_<;>intro h hq)|fail)
  ·refine Aw Ae rfl ?_;rw[C2 hk.2 (by omega) h];rfl
  ·refine⟨k+1,⟨by omega,fun i hi=>?_⟩,by omega,By ⟨rfl,rfl,rfl,rfl,tt0⟩ trivial rfl⟩;by_cases hik:i<k
   ·exact hk.2 i hik
   ·have:i=k:=by omega
    subst this;exact h
  ·refine Aw Ae rfl ?_;have:k=l.length:=by omega
   subst this;rw[CF hk.2];rfl
theorem RM (l:List TC) (p:TC->Bool):Ak 243 [AD (tcs l),.clo (Ll p)] (AB (l.any p)):=by
 refine Ao func243 ntmps243 results243 fun E hS=>?_
 repeat'(first|refine Ad ?_|refine AK [] (AeH l p) ?_|fail)
 all_goals exact Aq Ae rfl (EL _ _).symm
theorem Ul (c:TC) (p:Pk):Ak 244 [tcA c,.ep (fun j=>p.enc.getD j .Df) 6] (AB (decide (c.kind=2)&&c.send&&decide (c.peer=p.to))):=by
 refine Ao func244 ntmps244 results244 fun E hS=>?_
 repeat'(first|refine Ad ?_|(refine Av ?_ ?_<;>intro h hq)|fail)
 all_goals(refine Aq Ae rfl ?_;simp_all)
theorem Xo {σ:St} {p:Pk} {n1:Nat} {L:List Nat} (hL:n1∈L) (h1:σ (.b n1)=some (.k (.box p.cs))):AR Tryz.prog σ L (.fnc 244 [.ptr n1 0]) (.clo (Ll fun c=>decide (c.kind=2)&&c.send&&decide (c.peer=p.to))):=
 .fnc (eps:=[.ep (fun j=>p.enc.getD j .Df) 6]) (.cons (.ptr hL h1 (fun j hj=>by
  have:j=0\/j=1\/j=2\/j=3\/j=4\/j=5:=by omega
  rcases this with rfl|rfl|rfl|rfl|rfl|rfl<;>rfl)) .nil) (enters_of func244 (by kernel_rfl) rfl)
  (by rintro _ _ ⟨x,rfl,rfl⟩;exact⟨rfl,Ul x p⟩)
theorem Xn (p:Pk) (s:Sta) (slot:Int) (c:TC):Ak 242 [pkA p,.ep (fun _=>.pt 21 (wG s slot c)) 1] (AB (decide (p.to=-1)||!Xz s.tb p.to)):=by
 refine Ao func242 ntmps242 results242 fun E hS=>?_
 repeat'(first|refine Ad ?_|refine Bl (gk rfl) rfl rfl ?_|refine A9 (gk rfl) rfl rfl rfl rfl rfl ?_|refine Cd [2] (RM s.tb.cells (fun c=>decide (c.kind=2)&&c.send&&decide (c.peer=p.to))) (gk rfl) rfl (by(repeat'(first|exact .nil|refine .cons ?_ ?_|exact .of0 (.c .d)|exact(Xo (by simp) rfl)))<;>fail) (by rfl) rfl (by rfl) rfl (by rfl) rfl ?_|(refine Av ?_ ?_<;>intro h hq)|fail)
 all_goals(refine Aq Ae rfl ?_;unfold Xz;simp_all)
theorem RX {σ:St} {s:Sta} {slot:Int} {c:TC} {n1:Nat} {L:List Nat} (hL:n1∈L) (h1:σ (.b n1)=some (.k (.box [.d (.pt 21 (wG s slot c))]))):AR Tryz.prog σ L (.fnc 242 [.ptr n1 0]) (.clo (Cg fun p=>decide (p.to=-1)||!Xz s.tb p.to)):=
 .fnc (eps:=[.ep (fun _=>.pt 21 (wG s slot c)) 1]) (.cons (.ptr hL h1 (fun j hj=>by
  have:j=0:=by omega
  subst this;rfl)) .nil) (enters_of func242 (by kernel_rfl) rfl)
  (by rintro _ _ ⟨x,rfl,rfl⟩;exact⟨rfl,Xn x s slot c⟩)
theorem Cw (s:Sta) (slot:Int) (c:TC):Ak 178 [wP s slot c] (.tup [pkA (YA s (EF s)),AB (EF s).isSome]):=by
 have hix:=Jh s.qu.Ab fun p=>decide (p.to=-1)||!Xz s.tb p.to
 refine Ao func178 ntmps178 results178 fun E hS=>?_
 cases hf:EF s with
 |none=>
  have hf':Ft s.qu.Ab (fun p=>decide (p.to=-1)||!Xz s.tb p.to)=none:=hf;rw[hf'] at hix;have hix':Ak 210 [AD (pks s.qu.Ab),.clo (Cg fun p=>decide (p.to=-1)||!Xz s.tb p.to)] (AI (-1)):=hix
  repeat'(first|refine Ad ?_|refine Bl (gk rfl) rfl rfl ?_|refine A9 (gk rfl) rfl rfl rfl rfl rfl ?_|refine Cd [1] (hix') (gk rfl) rfl (by(repeat'(first|exact .nil|refine .cons ?_ ?_|exact .of0 (.c .d)|exact(RX (by simp) rfl)))<;>fail) (by rfl) rfl (by rfl) rfl (by rfl) rfl ?_|fail)
  all_goals exact Aj
 |some i=>
  have hf':Ft s.qu.Ab (fun p=>decide (p.to=-1)||!Xz s.tb p.to)=some i:=hf;rw[hf'] at hix;have hix':Ak 210 [AD (pks s.qu.Ab),.clo (Cg fun p=>decide (p.to=-1)||!Xz s.tb p.to)] (AI (i:Nat)):=hix;obtain⟨hi,_,_⟩:=Bs hf'
  repeat'(first|refine Ad ?_|refine Bl (gk rfl) rfl rfl ?_|refine A9 (gk rfl) rfl rfl rfl rfl rfl ?_|refine Cd [1] (hix') (gk rfl) rfl (by(repeat'(first|exact .nil|refine .cons ?_ ?_|exact .of0 (.c .d)|exact(RX (by simp) rfl)))<;>fail) (by rfl) rfl (by rfl) rfl (by rfl) rfl ?_|fail)
  all_goals first
   |(exfalso;omega)
   |exact Aj
theorem KN (s:Sta) (slot:Int) (c:TC) (p:Pk):Ak 285 [wP s slot c,pkA p] (acA (Afj s p)):=by
 refine Ao func285 ntmps285 results285 fun E hS=>?_
 repeat'(first|refine Ad ?_|refine Bl (gk rfl) rfl rfl ?_|refine A9 (gk rfl) rfl rfl rfl rfl rfl ?_|fail)
 all_goals exact Ay
theorem GX (s:Sta):Ak 45 [stA s] (AI (AU s)):=by
 have hpow:s.back<0\/5<s.back\/(1<=(2:Int)^s.back.toNat/\(2:Int)^s.back.toNat<=32):=Aei s.back;refine Ao func45 ntmps45 results45 fun E hS=>?_
 repeat'(first|refine AJ ?_|refine Aa (Fo s.tb) ?_|refine Aa (Fp s.qu) ?_|refine sq 4 rfl ?_|refine BN ?_|(refine Av ?_ ?_<;>intro h hq)|fail)
 ·exact Aw Ae rfl (Bt (.inl hq))
 ·exact Aw Ae rfl (Bt (.inr (.inl (by unfold CS;rw[Ajv hq];rfl))))
 ·exact Aw Ae rfl (Bt (.inr (.inr (.inl (by unfold F0;rw[Ajv (by omega),Ak4])))))
 have hc:Br s.qu=0:=by assumption
 have hT:BV s.tb=0:=by assumption
 have hl:=B9 hc;refine DJ (nm:=1) (j:=6) (n:=s.seen.length) rfl rfl fun hbl=>?_
 refine Ax (ι:=Nat) (fun k=>AN [(1,.c (.ptr 1 0)),(3,AI k)] [(1,.box s.cs)]) (fun k=>k<=s.qu.Ab.length/\∀i,i<k->VB s.tb.node (s.qu.Ab.getD i default)=false) (fun k=>s.qu.Ab.length-k) 0 ⟨Ake _,fun i hi=>absurd hi (Aj9 _)⟩ ?_ ?_
 ·exact Al
 ·intro k hk;rcases Akf k s.qu.Ab.length with hlt|hge
  ·repeat'(first|refine Af ?_|(refine Av ?_ ?_<;>intro h hq)|fail)
   all_goals first
    |(exfalso;omega)
    |(refine Aw Ae rfl (Bt (.inr (.inl ?_)))
      have hb:VB s.tb.node (s.qu.Ab.getD k default)=true:=Aju (by omega);have:s.qu.Ab.any (VB s.tb.node)=true:=AjM.2 ⟨_,BS hlt,hb⟩;unfold CS;rw[this];simp)
    |(refine⟨k+1,⟨by omega,fun i hi=>?_⟩,by omega,?_⟩
      ·by_cases hik:i<k
       ·exact hk.2 i hik
       ·have:i=k:=by omega
        subst this;exact Ajv (by omega)
      ·exact Al
      )
  ·have hP:CS s=true:=by
    have:s.qu.Ab.any (VB s.tb.node)=false:=by
     rw[AjN];intro x hx;obtain⟨i,hi,rfl⟩:=CI hx;rw[hk.2 i (by omega)];simp
    unfold CS;rw[this,Aju hc];rfl
   repeat'(first|refine AJ ?_|refine sq 10 rfl ?_|refine BN ?_|(refine Av ?_ ?_<;>intro h hq)|fail)
   all_goals try (exfalso;omega)
   clear hk;refine Ax (ι:=Nat) (fun k=>AN [(1,.c (.ptr 1 0)),(5,AI k)] [(1,.box s.cs)]) (fun k=>k<=s.held.length/\∀i,i<k->Xv s.held i=false) (fun k=>s.held.length-k) 0 ⟨Ake _,fun i hi=>absurd hi (Aj9 _)⟩ ?_ ?_
   ·exact Al
   ·intro k hk;rcases Akf k s.held.length with hlt|hge
    ·repeat'(first|refine Af ?_|refine Aa (WT _) ?_|refine A5 ?_|refine BZ (gk rfl) rfl rfl rfl rfl rfl (by omega) rfl ?_|(refine Av ?_ ?_<;>intro h hq)|fail)
     all_goals try (exfalso;omega)
     ·exact Aw Ae rfl (Bt (.inr (.inr (.inl (Rt hlt (Ow (.inl hq)))))))
     ·exact Aw Ae rfl (Bt (.inr (.inr (.inl (Rt hlt (Ow (.inr ⟨by omega,hq⟩)))))))
     ·refine⟨k+1,⟨by omega,fun i hi=>?_⟩,by omega,?_⟩
      ·by_cases hik:i<k
       ·exact hk.2 i hik
       ·have:i=k:=by omega
        subst this;exact Nf (by assumption) (by omega)
      ·exact Al
     ·refine⟨k+1,⟨by omega,fun i hi=>?_⟩,by omega,?_⟩
      ·by_cases hik:i<k
       ·exact hk.2 i hik
       ·have:i=k:=by omega
        subst this;exact Nf (by assumption) (by omega)
      ·exact Al
    ·have hH:F0 s.held=true:=by
      unfold F0;rw[DB fun i hi=>hk.2 i (by omega),Aju (by omega)];rfl
     repeat'(first|refine AJ ?_|refine sq 15 rfl ?_|refine BN ?_|(refine Av ?_ ?_<;>intro h hq)|fail)
     all_goals try (exfalso;omega)
     clear hk;refine Ax (ι:=Nat) (fun k=>AN [(1,.c (.ptr 1 0)),(6,AI k)] [(1,.box s.cs)]) (fun k=>k<=s.seen.length/\∀i,i<k->Ace s.seen i=false) (fun k=>s.seen.length-k) 0 ⟨Ake _,fun i hi=>absurd hi (Aj9 _)⟩ ?_ ?_
     ·exact Al
     ·intro k hk;rcases Akf k s.seen.length with hlt|hge
      ·repeat'(first|refine Af ?_|refine Aa (Ew (s.seen.getD k default).node) ?_|refine Aa (Gu (s.seen.getD k default).seq) ?_|refine A5 ?_|refine BZ (gk rfl) rfl rfl rfl rfl rfl (by omega) rfl ?_|(refine Av ?_ ?_<;>intro h hq)|fail)
       all_goals first
        |(exfalso;omega)
        |(refine Aw Ae rfl (Bt (.inr (.inr (.inr (.inl (Yd hlt ?_))))))
          refine Aju ?_;omega)
        |(refine⟨k+1,⟨by omega,fun i hi=>?_⟩,by omega,?_⟩
          ·by_cases hik:i<k
           ·exact hk.2 i hik
           ·have:i=k:=by omega
            subst this;refine Ajv ?_;omega
          ·exact Al
          )
      ·have hN:Gn s.seen=true:=by
        unfold Gn;rw[DB fun i hi=>hk.2 i (by omega)];rfl
       have hix:=Ip s.qu.Ab s.A6;rcases Int.lt_or_le s.back 0 with hb0|hb0
       ·have hd:decide (s.back<0)=true:=Aju hb0
        repeat'(first|refine AJ ?_|refine Aa (Gu _) ?_|refine sq 21 rfl ?_|refine BN ?_|(refine Av ?_ ?_<;>intro h hq)|fail)
        all_goals first
         |(exfalso;omega)
         |(refine Aw Ae rfl (Bt (.inr (.inr (.inr (.inr (.inr ?_))))));exact Ajv (by omega))
       rcases Int.lt_or_le 5 s.back with hb5|hb5
       ·have hd:decide (5<s.back)=true:=Aju hb5
        repeat'(first|refine AJ ?_|refine Aa (Gu _) ?_|refine sq 21 rfl ?_|refine BN ?_|(refine Av ?_ ?_<;>intro h hq)|fail)
        all_goals first
         |(exfalso;omega)
         |(refine Aw Ae rfl (Bt (.inr (.inr (.inr (.inr (.inr ?_))))));exact Ajv (by omega))
       have hpw:=N5 s.back ⟨hb0,hb5⟩
       repeat'(first|refine AJ ?_|refine Aa (Gu _) ?_|refine Aa (hpw) ?_|refine sq 21 rfl ?_|refine BN ?_|(refine Av ?_ ?_<;>intro h hq)|fail)
       all_goals first
        |(exfalso;omega)
        |(refine Aw Ae rfl (Bt (.inr (.inr (.inr (.inr (.inr ?_))))));exact Ajv (by omega))
        |skip
       have hR:Ti s=true:=Aju (by omega);cases hf:Ft s.qu.Ab (fun x=>decide (x.id=s.A6)) with
       |none=>
        rw[hf] at hix;have hix':Ak 80 [AD (pks s.qu.Ab),AI s.A6] (AI (-1)):=hix;have hh:hasB s.qu.Ab s.A6=false:=by
         have:=EL s.qu.Ab (fun x=>decide (x.id=s.A6));rw[hf] at this;exact this.symm
        repeat'(first|refine Ad ?_|refine Aa (hix') ?_|(refine Av ?_ ?_<;>intro h hq)|fail)
        all_goals first
         |exact Aw Ae rfl (Ce hT hP hH hN (Aju (.inl ⟨by omega,by omega⟩)) hR)
         |(refine Aw Ae rfl (Bt (.inr (.inr (.inr (.inr (.inl (Ajv ?_)))))))
           rw[hh];simp;omega)
         |(exfalso;omega)
       |some i=>
        rw[hf] at hix;have hix':Ak 80 [AD (pks s.qu.Ab),AI s.A6] (AI (i:Nat)):=hix;obtain⟨hi,he,_⟩:=Bs hf;have hh:hasB s.qu.Ab s.A6=true:=AjM.2 ⟨_,BS hi,he⟩;have hid:0<=s.A6:=by
         have h1:=(El hc hi).1;have h2:=AjT he;unfold Eo at h1
         split at h1
         ·cases h1
         ·omega
        repeat'(first|refine Ad ?_|refine Aa (hix') ?_|(refine Av ?_ ?_<;>intro h hq)|fail)
        all_goals first
         |exact Aw Ae rfl (Ce hT hP hH hN (Aju (.inl ⟨by omega,by omega⟩)) hR)
         |exact Aw Ae rfl (Ce hT hP hH hN (Aju (.inr ⟨by omega,hh,by omega,by omega⟩)) hR)
         |(refine Aw Ae rfl (Bt (.inr (.inr (.inr (.inr (.inl (Ajv ?_)))))))
           rw[hh];simp;omega)
         |(exfalso;omega)
end Go.Proofs
