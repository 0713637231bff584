/-
  Functions' results, and laws on them. No condition.
-/
import Derived.Test.YtdlcbilgemnomaaGreatSxMao
set_option linter.unusedSimpArgs false
set_option linter.unusedVariables false
set_option maxHeartbeats 16000000
open Go.Proofs.Tryz
namespace Go.Proofs
open Go Go.Sx Go.Proofs.T Go.Proofs.Q
set_option maxRecDepth 4000
attribute [local irreducible] VR VC thenQ blockQ retL
structure Pl where
 a:Ac
 c:TC
 p:Pk
 some:Bool
def Pl.cs (x:Pl):List C:=[.d (.int .i64 x.a.kind),.d (.int .i64 x.a.offset),.d (.int .i64 x.a.BM),.d (.int .i64 x.a.source),.d (.int .i64 x.a.target),.d (.int .i64 x.a.list),.d (.int .i64 x.a.seq),.d (.int .i64 x.a.BR),.d (.int .i64 x.a.number),.d (.int .i64 x.a.err),.d (.int .i64 x.a.slot),.d (.int .i64 x.a.rank),.d (.int .i64 x.a.epoch),.d (.str x.a.data),
 .d (.int .i64 x.c.slot),.d (.int .i64 x.c.offset),.d (.int .i64 x.c.kind),.d (.bool x.c.send),.d (.int .i64 x.c.peer),.d (.int .i64 x.c.BR),
 .d (.int .i64 x.p.id),.d (.int .i64 x.p.to),.d (.int .i64 x.p.prio),.d (.int .i64 x.p.born),.d (.int .i64 x.p.AcC),.d (.str x.p.data),.d (.bool x.some)]
abbrev plA (x:Pl):AV:=.agg x.cs
def zPl:Pl:=⟨zAc,noC,noP,false⟩
def G0 (s:Sta) (c:TC):Pk×Bool:=if c.kind=2/\c.send=true then(if(C1 s.qu c.peer).2=true then((C1 s.qu c.peer).1,true) else(noP,false)) else if c.kind=3 then(YA s (EF s),(EF s).isSome) else(noP,false)
def Tv (s:Sta) (slot:Int) (c:TC) (ok:Bool):Pl:=if ok=false then zPl else⟨CA s slot c,c,(G0 s c).1,(G0 s c).2⟩
def AeD (c:TC):Prop:=c.kind=1\/c.kind=2\/c.kind=3
theorem at_mem {t:Tb} {slot:Int} (h:(atM t slot).2=true):BV t=0/\∃i,i<t.cells.length/\(atM t slot).1=t.cells.getD i default:=by
 unfold atM at h ⊢
 split at h
 ·cases h
 ·rename_i hc;rw[Akb hc];have hc:BV t=0:=by omega
  cases hf:Ft t.cells (fun c=>decide (c.slot=slot % t.len)) with
  |none=>rw[hf] at h;cases h
  |some i=>
   obtain⟨hi,_,_⟩:=Bs hf;exact⟨hc,i,hi,rfl⟩
theorem Ae6 {t:Tb} {slot:Int} (h:(atM t slot).2=true):JV (atM t slot).1 t.node t.len=0:=by
 obtain⟨hc,i,hi,e⟩:=at_mem h;rw[e];exact(RW hc i hi).1
theorem ZH {c:TC} {a b:Int} (h:JV c a b=0):AeD c:=by
 unfold JV at h
 split at h
 ·cases h
 ·unfold AeD;omega
theorem Aap {t:Tb} {slot:Int} (h:(atM t slot).2=false):(atM t slot).1=noC:=by
 unfold atM at h ⊢
 split
 ·rfl
 ·rename_i hc;rw[Akb hc] at h;cases hf:Ft t.cells (fun c=>decide (c.slot=slot % t.len)) with
  |none=>rfl
  |some i=>rw[hf] at h;cases h
theorem PU (s:Sta) (slot:Int):CA s slot noC=zAc:=by
 rw[CA,GU,Akb (by decide),Akb (by decide),Akb (by decide)];exact JL rfl
theorem IQ (s:Sta) (slot:Int) (hck:AU s=0):Ak 146 [stA s,AI slot] (plA (Tv s slot (atM s.tb slot).1 (atM s.tb slot).2)):=by
 have hat:=QM s.tb slot;have hfm:=@Ae6 s.tb slot;refine Ao func146 ntmps146 results146 fun E hS=>?_
 generalize hac:atM s.tb slot=ac at hat hfm ⊢;obtain⟨c,ok⟩:=ac;dsimp only at hat hfm ⊢;cases ok with
 |false=>
  have e:Tv s slot c false=zPl:=Akc rfl;rw[e]
  repeat'(first|refine Ad ?_|refine Aa (hat) ?_|fail)
  exact Ay
 |true=>
  have hkd:=ZH (hfm rfl);have e0:Tv s slot c true=⟨CA s slot c,c,(G0 s c).1,(G0 s c).2⟩:=Akb (by simp);rw[e0];clear hac hfm e0;obtain⟨sl,of,kd,snd,pe,fl⟩:=c;unfold AeD at hkd;dsimp only at hkd;rcases hkd with rfl|rfl|rfl
  ·have hix:=CP s fl;cases snd with
   |false=>
    have e:CA s slot ⟨sl,of,1,false,pe,fl⟩={Aez with offset:=of}:=rfl;rw[e]
    repeat'(first|refine Af ?_|refine Aa (hat) ?_|fail)
    exact Ay
   |true=>
    cases hf:Kv s.held fl with
    |none=>
     have e:CA s slot ⟨sl,of,1,true,pe,fl⟩=zAc:=by
      have:RJ s slot ⟨sl,of,1,true,pe,fl⟩=zAc:=by rw[RJ,Akb (by simp)];dsimp only;rw[hf]
      rw[CA,GU,Akc rfl,this];rfl
     rw[hf] at hix;have hix':Ak 148 [stA s,AI fl] (AI (-1)):=hix;rw[e]
     repeat'(first|refine Af ?_|refine Aa (hat) ?_|refine Aa (hix') ?_|fail)
     exact Ay
    |some i=>
     obtain⟨hi,_,_⟩:=Bs hf;have hfr:=DE ((Ds (Ba hck).2.2.2.1).2 i hi).1;have e1:RJ s slot ⟨sl,of,1,true,pe,fl⟩=if(s.held.getD i default).til<slot\/((s.held.getD i default).AH.any fun y=>decide (pe=y))=true then zAc else AhA s ⟨sl,of,1,true,pe,fl⟩ (s.held.getD i default):=by rw[RJ,Akb (by simp)];dsimp only;rw[hf]
     have e2:CA s slot ⟨sl,of,1,true,pe,fl⟩=QX (RJ s slot ⟨sl,of,1,true,pe,fl⟩) of:=by rw[CA,GU,Akc rfl]
     rw[hf] at hix;have hix':Ak 148 [stA s,AI fl] (AI (i:Nat)):=hix;rw[e2,e1]
     repeat'(first|refine Af ?_|refine Aa (hat) ?_|refine Aa (hix') ?_|refine Aa (Ws (s.held.getD i default).AH pe) ?_|(refine Av ?_ ?_<;>intro h hq)|fail)
     all_goals try (exfalso;omega)
     ·rw[Akc (.inl hq)];exact Ay
     ·rw[Akc (.inr h)];exact Ay
     ·rw[Akb (by rintro(h1|h1);omega;rw[h] at h1;cases h1)];exact Ay
  ·cases snd with
   |false=>
    have e:CA s slot ⟨sl,of,2,false,pe,fl⟩={Aez with offset:=of}:=rfl;rw[e]
    repeat'(first|refine Af ?_|refine Aa (hat) ?_|fail)
    exact Ay
   |true=>
    have e2:CA s slot ⟨sl,of,2,true,pe,fl⟩=QX (XA s ⟨sl,of,2,true,pe,fl⟩) of:=by rw[CA,GU,Akb (by intro h;cases h),Akc rfl]
    have e1:XA s ⟨sl,of,2,true,pe,fl⟩=if(C1 s.qu pe).2=true then Afj s (C1 s.qu pe).1 else zAc:=by rw[XA,Akb (by simp)]
    have e3:G0 s ⟨sl,of,2,true,pe,fl⟩=if(C1 s.qu pe).2=true then((C1 s.qu pe).1,true) else(noP,false):=by rw[G0,Akc ⟨rfl,rfl⟩]
    rw[e2,e1,e3]
    repeat'(first|refine Af ?_|refine Aa (hat) ?_|refine Aa (QN s.qu pe) ?_|refine Aa (IS s (C1 s.qu pe).1) ?_|(refine Av ?_ ?_<;>intro h hq)|fail)
    ·have h':(C1 s.qu pe).2=false:=by simpa using h
     rw[Akb (by rw[h'];simp),Akb (by rw[h'];simp)];exact Ay
    ·have h':(C1 s.qu pe).2=true:=by simpa using h
     rw[Akc h',Akc h'];exact Ay
  ·have e2:CA s slot ⟨sl,of,3,snd,pe,fl⟩=QX (XB s) of:=by rw[CA,GU,Akb (by intro h;cases h),Akb (by intro h;cases h),Akc rfl]
   have e3:G0 s ⟨sl,of,3,snd,pe,fl⟩=(YA s (EF s),(EF s).isSome):=by rw[G0,Akb (by rintro⟨h,_⟩;cases h),Akc rfl]
   rw[e2,e3]
   repeat'(first|refine Af ?_|refine Aa (hat) ?_|refine Aa (KY s) ?_|refine Aa (IS s (YA s (EF s))) ?_|(refine Av ?_ ?_<;>intro h hq)|fail)
   ·rw[XB,Akc ⟨by assumption,by omega⟩];exact Ay
   ·rw[XB,Akb (by rintro⟨h1,h2⟩;omega)];exact Ay
   ·rw[XB,Akb (by rintro⟨h1,h2⟩;simp_all)];exact Ay
theorem Agt (s:Sta) (slot:Int):(Tv s slot (atM s.tb slot).1 (atM s.tb slot).2).a=CA s slot (atM s.tb slot).1:=by
 cases h:(atM s.tb slot).2 with
 |false=>rw[Aap h,PU];rfl
 |true=>rfl
theorem Kn (s:Sta) (slot:Int):Ak 137 [stA s,AI slot] (.tup [acA (Hs s slot).1,AI (Hs s slot).2]):=by
 have hc:=GX s;refine Ao func137 ntmps137 results137 fun E hS=>?_
 by_cases hck:AU s=0
 ·rw[hck] at hc;by_cases hs:slot<0\/109951162<slot
  ·have e:Hs s slot=(zAc,2):=by rw[Hs,Akb (by omega),Akc hs]
   rw[e];rcases Int.lt_or_le slot 0 with h0|h0
   ·have d1:decide (slot<0)=true:=Aju h0
    repeat'(first|refine Ad ?_|refine Aa (hc) ?_|fail)
    exact Aj
   ·have d1:=Cc (slot<0);have d2:=Es (109951162<slot)
    repeat'(first|refine Ad ?_|refine Aa (hc) ?_|fail)
    exact Aj
  ·have e:Hs s slot=(CA s slot (atM s.tb slot).1,0):=by rw[Hs,Akb (by omega),Akb hs]
   have d1:=Cc (slot<0);have d2:=Cc (109951162<slot);rw[e,<-Agt]
   repeat'(first|refine Ad ?_|refine Aa (hc) ?_|refine Aa (IQ s slot hck) ?_|refine Qe (gk rfl) rfl rfl rfl rfl rfl ?_|fail)
   exact Aj
 ·have e:Hs s slot=(zAc,1):=by rw[Hs,Akc hck]
  have hd:decide (AU s≠0)=true:=by simp[hck]
  rw[e]
  repeat'(first|refine Ad ?_|refine Aa (hc) ?_|fail)
  exact Aj
def Ug (s:Sta):Sta:=if hasB s.qu.Ab s.A6=false then{s with A6:=-1,tries:=0} else s
theorem MZ {s t:Sta} (h:I4 s=true) (h1:t.A6=s.A6) (h2:t.tries=s.tries):Ug t=Dl t:=by
 have h:=AjT h;unfold Ug Dl;rcases h with⟨h3,h4⟩|⟨h3,_⟩
 ·rw[Akb (c:=0<=t.A6/\_) (fun h=>by have:=h.1;omega)]
  split
  ·obtain⟨a1,a2,a3,a4,a5,a6,a7,a8,a9,a10,a11⟩:=t;simp only at h1 h2;subst h1 h2;rw[h3,h4]
  ·rfl
 ·have:0<=t.A6:=by omega
  split
  ·rename_i h5;rw[Akc ⟨this,h5⟩]
  ·rename_i h5;rw[Akb (fun h=>h5 h.2)]
theorem IT (s:Sta):Ak 139 [stA s] (stA (Ug s)):=by
 have hix:=Ip s.qu.Ab s.A6;have ha:=EL s.qu.Ab (fun x=>decide (x.id=s.A6));refine Ao func139 ntmps139 results139 fun E hS=>?_
 cases hf:Ft s.qu.Ab (fun x=>decide (x.id=s.A6)) with
 |none=>
  rw[hf] at hix ha;have hix':Ak 80 [AD (pks s.qu.Ab),AI s.A6] (AI (-1)):=hix;have e:Ug s={s with A6:=-1,tries:=0}:=Akc (by rw[hasB,<-ha];rfl);rw[e]
  repeat'(first|refine Ad ?_|refine Aa (hix') ?_|fail)
  exact Ay
 |some i=>
  rw[hf] at hix ha;have hix':Ak 80 [AD (pks s.qu.Ab),AI s.A6] (AI (i:Nat)):=hix;have e:Ug s=s:=Akb (by rw[hasB,<-ha];simp[oI]);rw[e]
  repeat'(first|refine Ad ?_|refine Aa (hix') ?_|fail)
  all_goals first
   |(exfalso;omega)
   |exact Ay
theorem Tl (s:Sta) (p:Pk):Ak 140 [stA s,pkA p] (.tup [stA (Ia s p).1,AD (pks (Ia s p).2.1),AI (Ia s p).2.2]):=by
 have hck:=GX s;refine Ao func140 ntmps140 results140 fun E hS=>?_
 refine AG ?_;by_cases hc:AU s=0
 ·rw[hc] at hck;by_cases he:(DP s.qu p).2.2=0
  ·by_cases ht:p.to=s.tb.node
   ·have e:Ia s p=(noS,[],12):=by rw[Ia,Akb (by omega),Akb (by omega),Akc ht]
    have d1:=Cc ((DP s.qu p).2.2≠0);have d2:=Aju ht;rw[e]
    repeat'(first|refine Ad ?_|refine Aa (hck) ?_|refine Aa (H9 s.qu p) ?_|fail)
    exact Ag (Al (l:=[(4,.c (.ptr 4 0)),(5,AD (pks [])),(6,AI 12)]) (b:=[(4,.box noS.cs)])) AL
   ·have d1:=Cc ((DP s.qu p).2.2≠0);have d2:=Ajv ht;by_cases hz:100<p.data.size
    ·have e:Ia s p=(noS,[],8):=by rw[Ia,Akb (by omega),Akb (by omega),Akb ht,Akc hz]
     have d3:=Es ((100:Int)<(p.data.size:Nat));rw[e]
     repeat'(first|refine Ad ?_|refine Aa (hck) ?_|refine Aa (H9 s.qu p) ?_|fail)
     exact Ag (Al (l:=[(4,.c (.ptr 4 0)),(5,AD (pks [])),(6,AI 8)]) (b:=[(4,.box noS.cs)])) AL
    ·have e:Ia s p=(Dl {s with qu:=(DP s.qu p).1},(DP s.qu p).2.1,0):=by rw[Ia,Akb (by omega),Akb (by omega),Akb ht,Akb hz]
     have d3:=Cc ((100:Int)<(p.data.size:Nat));rw[e,<-MZ (t:={s with qu:=(DP s.qu p).1}) (Ba hc).2.2.2.2.2.1 rfl rfl]
     repeat'(first|refine Ad ?_|refine Aa (hck) ?_|refine Aa (H9 s.qu p) ?_|refine Aa (IT {s with qu:=(DP s.qu p).1}) ?_|fail)
     exact Ag (Al (l:=[(4,.c (.ptr 4 0)),(5,AD (pks (DP s.qu p).2.1)),(6,AI 0)]) (b:=[(4,.box (Ug {s with qu:=(DP s.qu p).1}).cs)])) AL
  ·have e:Ia s p=(noS,[],(DP s.qu p).2.2):=by rw[Ia,Akb (by omega),Akc he]
   have d1:decide ((DP s.qu p).2.2≠0)=true:=Aju he;rw[e]
   repeat'(first|refine Ad ?_|refine Aa (hck) ?_|refine Aa (H9 s.qu p) ?_|fail)
   exact Ag (Al (l:=[(4,.c (.ptr 4 0)),(5,AD (pks [])),(6,AI (DP s.qu p).2.2)]) (b:=[(4,.box noS.cs)])) AL
 ·have e:Ia s p=(noS,[],1):=by rw[Ia,Akc hc]
  have hd:decide (AU s≠0)=true:=by simp[hc]
  rw[e]
  repeat'(first|refine Ad ?_|refine Aa (hck) ?_|fail)
  exact Ag (Al (l:=[(4,.c (.ptr 4 0)),(5,AD (pks [])),(6,AI 1)]) (b:=[(4,.box noS.cs)])) AL
theorem T1 {l:List Hd} {slot:Int} {k:Nat} (h:k<l.length):Fj (l.take (k+1)) slot=Fj (l.take k) slot++if(l.getD k default).til<slot then[] else[l.getD k default]:=by
 unfold Fj;rw[Go.Sx.Bq h,Akw]
 congr 1
 split
 ·rename_i h;rw[AkA (by rw[Aju h];simp)];rfl
 ·rename_i h;rw[AkL (by rw[Ajv h];rfl)];rfl
theorem ND (s:Sta) (slot:Int):Ak 95 [stA s,AI slot] (.tup [stA (Cj s slot).1,AD (pks (Cj s slot).2.1),AI (Cj s slot).2.2]):=by
 have hac:=Kn s slot;refine Ao func95 ntmps95 results95 fun E hS=>?_
 refine AG ?_;by_cases hc:AU s=0
 ·have hhl:=(Ds (Ba hc).2.2.2.1).1;by_cases hs:slot<0\/109951162<slot
  ·have e:Cj s slot=(noS,[],2):=by rw[Cj,Akb (by omega),Akc hs]
   have ea:Hs s slot=(zAc,2):=by rw[Hs,Akb (by omega),Akc hs]
   rw[ea] at hac;rw[e]
   repeat'(first|refine Ad ?_|refine Aa (hac) ?_|fail)
   exact Ag (Al (l:=[(4,.c (.ptr 4 0)),(5,AD (pks [])),(6,AI 2)]) (b:=[(4,.box noS.cs)])) AL
  ·have e:Cj s slot=(Dl {s with held:=Fj s.held slot,qu:=(BX s.qu slot).1},(BX s.qu slot).2,0):=by rw[Cj,Akb (by omega),Akb hs]
   have ea:Hs s slot=(CA s slot (atM s.tb slot).1,0):=by rw[Hs,Akb (by omega),Akb hs]
   rw[ea] at hac;rw[e,<-MZ (t:={s with held:=Fj s.held slot,qu:=(BX s.qu slot).1}) (Ba hc).2.2.2.2.2.1 rfl rfl]
   repeat'(first|refine Af ?_|refine Aa (hac) ?_|refine Aa (O6 s.qu slot) ?_|fail)
   refine VC.le (le_nil (t:=11) (nm:=44) (T:=110) (sz:=5) rfl rfl) ?_;refine Ax (ι:=Nat) (fun k=>AN [(1,AI slot),(2,.c (.ptr 2 0)),(4,.c (.ptr 4 0)),(10,AD (pks (BX s.qu slot).2)),(11,.c (.row 44 (Fj (s.held.take k) slot).length)),(12,AI k)]
    [(2,.box (Sta.cs {s with qu:=(BX s.qu slot).1})),(4,.box noS.cs),(44,.row 110 5 (rowOf Hd.enc (Fj (s.held.take k) slot)))])
    (fun k=>k<=s.held.length) (fun k=>s.held.length-k) 0 (Ake _) ?_ ?_
   ·exact Al
   ·intro k hk;have hfl:(Fj (s.held.take k) slot).length<=16:=by
     have:=Aj4 (fun h:Hd=>!decide (h.til<slot)) (s.held.take k);rw[AjD] at this;unfold Fj;omega
    rcases Akf k s.held.length with hlt|hge
    ·have dlt:=Cz k s.held.length;have hst:=T1 (slot:=slot) hlt
     repeat'(first|refine Af ?_|refine Ap ?_|(refine Av ?_ ?_<;>intro h hq<;>try simp only[hqs] at hq)|fail)
     ·rw[Akb (by omega)] at hst;refine BU (k+1) ?_;rw[hst];exact BF (fun n=>if n=44 then 54 else n)
     ·rw[Akc (by omega),AjQ] at hst;refine BU (k+1) ?_;rw[hst];exact Al
    ·have dlt:=CM k s.held.length;have hk':k=s.held.length:=by omega
     rw[hk',AkB] at hfl;subst hk';rw[AkB]
     repeat'(first|refine AJ ?_|refine sq 13 rfl ?_|fail)
     refine VC.le (σ':=AN [(2,.c (.ptr 2 0)),(4,.c (.ptr 4 0)),(10,AD (pks (BX s.qu slot).2))] [(2,.box (Sta.cs {s with held:=Fj s.held slot,qu:=(BX s.qu slot).1})),(4,.box noS.cs)]) ?_ ?_
     ·exact Cu (fun n=>n) [44] hS
     repeat'(first|refine Ad ?_|refine Aa (IT {s with held:=Fj s.held slot,qu:=(BX s.qu slot).1}) ?_|fail)
     exact Ag (Al (l:=[(4,.c (.ptr 4 0)),(5,AD (pks (BX s.qu slot).2)),(6,AI 0)]) (b:=[(4,.box (Ug {s with held:=Fj s.held slot,qu:=(BX s.qu slot).1}).cs)])) AL
 ·have e:Cj s slot=(noS,[],1):=by rw[Cj,Akc hc]
  have ea:Hs s slot=(zAc,1):=by rw[Hs,Akc hc]
  rw[ea] at hac;rw[e]
  repeat'(first|refine Ad ?_|refine Aa (hac) ?_|fail)
  exact Ag (Al (l:=[(4,.c (.ptr 4 0)),(5,AD (pks [])),(6,AI 1)]) (b:=[(4,.box noS.cs)])) AL
end Go.Proofs
