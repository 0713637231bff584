/-
  Functions' results, and laws on them. No condition.
-/
import Derived.Test.YtdlcbilgemnomaaGreatSxMaq
import Derived.Test.YtdlcbilgemnomaaGreatSxMap
set_option linter.unusedSimpArgs false
set_option linter.unusedVariables false
set_option maxHeartbeats 16000000
open Go.Proofs.Tryz
namespace Go.Proofs
open Go Go.Sx Go.Proofs.T Go.Proofs.Q
set_option maxRecDepth 4000
attribute [local irreducible] VR VC thenQ blockQ retL
theorem Wp (l:List Sn) (x:Sn) (hl:l.length<=1000) (hri:OA Sn.node l):Ak 202 [AD (sns l),snA x] (AD (sns (GI Sn.node l x))):=by
 refine Ao func202 ntmps202 results202 fun E hS=>?_
 refine AG ?_
 repeat'(first|refine Af ?_|fail)
 refine VC.le (le_nil (t:=5) (nm:=45) (T:=123) (sz:=2) rfl rfl) ?_;refine Ax (ι:=Nat) (fun k=>AN [(0,AD (sns l)),(3,.c (.ptr 3 0)),(5,.c (.row 45 (l.take k).length)),(6,AI k)]
  [(3,.box x.cs),(45,.row 123 2 (rowOf Sn.enc (l.take k)))])
  (fun k=>k<=l.length/\∀a,a<k->(l.getD a default).node<x.node) (fun k=>l.length-k) 0 ⟨Ake _,fun i hi=>absurd hi (Aj9 _)⟩ ?_ ?_
 ·exact Al
 ·intro k hk;have htl:(l.take k).length<=1000:=by rw[AjD];omega
  rcases Akf k l.length with hlt|hge
  ·have dlt:=Cz k l.length;by_cases hfl:(l.getD k default).node<x.node
   ·have d2:=Aju hfl
    repeat'(first|refine Af ?_|refine Ap ?_|fail)
    refine⟨k+1,⟨by omega,fun a ha=>?_⟩,by omega,?_⟩
    ·by_cases hak:a<k
     ·exact hk.2 a hak
     ·rw[show a=k by omega];exact hfl
    ·rw[Go.Sx.Bq hlt];exact BF (fun n=>if n=45 then 29 else n)
   ·have d2:=Ajv hfl;have h2:∀a,k<=a->a<l.length->x.node<=(l.getD a default).node:=fun a ha hl=>by
     rcases Akf k a with h3|h3
     ·have:=hri k a h3 hl;omega
     ·rw[show a=k by omega];omega
    repeat'(first|refine Af ?_|refine Ap ?_|fail)
    refine Ax (ι:=Nat) (fun j=>AN [(0,AD (sns l)),(3,.c (.ptr 3 0)),(5,.c (.row 46 (I8 Sn.node l x k j).length)),(6,AI j)]
     [(3,.box x.cs),(46,.row 123 2 (rowOf Sn.enc (I8 Sn.node l x k j)))])
     (fun j=>k<=j/\j<=l.length) (fun j=>l.length-j) k ⟨Akd _,hk.1⟩ ?_ ?_
    ·rw[L0];exact BF (fun n=>if n=46 then 33 else n)
    ·intro j hj;have hsl:=Qv (k:=Sn.node) (l:=l) (x:=x) (i:=k) (j:=j);rcases Akf j l.length with hlj|hgj
     ·have dl:=Cz j l.length;have hst:=NV (k:=Sn.node) (l:=l) (x:=x) hj.1 hlj
      repeat'(first|refine Af ?_|refine Ap ?_|(refine Av ?_ ?_<;>intro h hq)|fail)
      ·rw[Akb hq] at hst;refine⟨j+1,⟨by omega,by omega⟩,by omega,?_⟩;rw[hst];exact BF (fun n=>if n=46 then 54 else n)
      ·rw[Akc hq,AjQ] at hst;refine⟨j+1,⟨by omega,by omega⟩,by omega,?_⟩;rw[hst];exact Al
     ·have dl:=CM j l.length;have hj':j=l.length:=by omega
      subst hj';have hen:I8 Sn.node l x k l.length=GI Sn.node l x:=Qw hk.1 hk.2 h2;rw[hen] at hsl;rw[hen]
      repeat'(first|refine Ad ?_|fail)
      exact Ag (Cu (l:=[(4,AD (sns (GI Sn.node l x)))]) (b:=[]) (fun n=>n) [46] hS) CV
  ·have dlt:=CM k l.length;have h2:∀a,k<=a->a<l.length->x.node<=(l.getD a default).node:=fun a ha hl=>by omega
   repeat'(first|refine Af ?_|refine Ap ?_|fail)
   refine Ax (ι:=Nat) (fun j=>AN [(0,AD (sns l)),(3,.c (.ptr 3 0)),(5,.c (.row 46 (I8 Sn.node l x k j).length)),(6,AI j)]
    [(3,.box x.cs),(46,.row 123 2 (rowOf Sn.enc (I8 Sn.node l x k j)))])
    (fun j=>k<=j/\j<=l.length) (fun j=>l.length-j) k ⟨Akd _,hk.1⟩ ?_ ?_
   ·rw[L0];exact BF (fun n=>if n=46 then 33 else n)
   ·intro j hj;have hsl:=Qv (k:=Sn.node) (l:=l) (x:=x) (i:=k) (j:=j);rcases Akf j l.length with hlj|hgj
    ·have dl:=Cz j l.length;have hst:=NV (k:=Sn.node) (l:=l) (x:=x) hj.1 hlj
     repeat'(first|refine Af ?_|refine Ap ?_|(refine Av ?_ ?_<;>intro h hq)|fail)
     ·rw[Akb hq] at hst;refine⟨j+1,⟨by omega,by omega⟩,by omega,?_⟩;rw[hst];exact BF (fun n=>if n=46 then 54 else n)
     ·rw[Akc hq,AjQ] at hst;refine⟨j+1,⟨by omega,by omega⟩,by omega,?_⟩;rw[hst];exact Al
    ·have dl:=CM j l.length;have hj':j=l.length:=by omega
     subst hj';have hen:I8 Sn.node l x k l.length=GI Sn.node l x:=Qw hk.1 hk.2 h2;rw[hen] at hsl;rw[hen]
     repeat'(first|refine Ad ?_|fail)
     exact Ag (Cu (l:=[(4,AD (sns (GI Sn.node l x)))]) (b:=[]) (fun n=>n) [46] hS) CV
theorem QI (s:Sta) (id:Int) (hck:AU s=0) (hid:∃i,JR s.qu.Ab id=some i):Ak 200 [stA s,AI id] (stA (Fi s id)):=by
 obtain⟨_,hQ,_,_,_,_,hr⟩:=Ba hck;have hr:=EI hr;have hl:=B9 hQ;obtain⟨i,hi⟩:=hid;have e:K9 s.qu id=(Ke s.qu id).1:=by rw[Kd hQ hi,K9,PA hQ hi]
 have hw:=P2 s.qu id (by omega);rw[e] at hw;refine Ao func200 ntmps200 results200 fun E hS=>?_
 repeat'(first|refine Ad ?_|refine Aa (hw) ?_|fail)
 exact Ay
theorem Tk (s:Sta) (x:Pl) (AH:Bool) (hck:AU s=0) (hp:x.p=BG s x.c) (hid:∃i,JR s.qu.Ab x.p.id=some i):Ak 147 [stA s,plA x,AB AH] (stA (Cm s x.c AH)):=by
 obtain⟨_,_,_,_,_,hty,hr⟩:=Ba hck;have hr:=EI hr;have hty:=AjT hty;have hpw:=(Aei (min (s.back+1) 5)).resolve_left (by omega) |>.resolve_left (by omega);have hlv:=QI s x.p.id hck hid;obtain⟨xa,c,p,sm⟩:=x;dsimp only at hp hid hlv ⊢;subst hp;have e1:(BG s c).to=-1->Cm s c AH=Fi s (BG s c).id:=fun h=>Akc h
 have e2:¬(BG s c).to=-1->AH=true\/4<=CK s c->¬c.kind=3->Cm s c AH=Fi s (BG s c).id:=fun h h1 h2=>by rw[Cm,Akb h,Akc h1,TZ,Akb h2]
 have e3:¬(BG s c).to=-1->AH=true\/4<=CK s c->c.kind=3->Cm s c AH={Fi s (BG s c).id with back:=0,wait:=0}:=fun h h1 h2=>by rw[Cm,Akb h,Akc h1,TZ,Akc h2]
 have e4:¬(BG s c).to=-1->AH=false->CK s c<4->¬c.kind=3->Cm s c AH={s with A6:=(BG s c).id,tries:=CK s c}:=fun h h1 h2 h3=>by rw[Cm,Akb h,Akb (by rw[h1];simp;omega),Nm,Akb h3]
 have e5:¬(BG s c).to=-1->AH=false->CK s c<4->c.kind=3->Cm s c AH={s with A6:=(BG s c).id,tries:=CK s c,back:=min (s.back+1) 5,Cq:=Bw s.Cq,wait:=Bw s.Cq/65536 % 2^(min (s.back+1) 5).toNat}:=fun h h1 h2 h3=>by rw[Cm,Akb h,Akb (by rw[h1];simp;omega),Nm,Akc h3];rfl
 have t1:s.A6=(BG s c).id->CK s c=s.tries+1:=fun h=>Akc h
 have t2:¬s.A6=(BG s c).id->CK s c=1:=fun h=>Akb h
 have hts:CK s c<=4:=by unfold CK;split<;>omega
 have hps:=N5 (min (s.back+1) 5) (by omega);refine Ao func147 ntmps147 results147 fun E hS=>?_
 by_cases k1:(BG s c).to=-1
 ·have d1:=Aju k1;rw[e1 k1]
  repeat'(first|refine Ad ?_|refine Aa (hlv) ?_|fail)
  exact Ay
 have d1:=Ajv k1;by_cases k3:c.kind=3
 ·have d3:=Aju k3;by_cases kg:AH=true\/4<=CK s c
  ·rw[e3 k1 kg k3]
   repeat'(first|refine AJ ?_|refine Aa (hlv) ?_|refine sq 12 rfl ?_|(refine Av ?_ ?_<;>intro h hq)|fail)
   all_goals first
    |exact Ay
    |(exfalso;rcases kg with kg|kg
      ·simp_all
      ·first|(have:=t1 (by assumption);omega)|(have:=t2 (by assumption);omega))
  ·have ha:AH=false:=by cases AH with
    |true=>exact absurd (.inl rfl) kg
    |false=>rfl
   have hlt:CK s c<4:=by omega
   rw[e5 k1 ha hlt k3];by_cases kt:s.A6=(BG s c).id
   ·have dt:=Aju kt;have h4:=t1 kt;have d4:=Cc (s.tries+1=4);rw[h4]
    repeat'(first|refine AJ ?_|refine sq 15 rfl ?_|fail)
    obtain⟨t,hte⟩:∃t:Sta,t={s with A6:=(BG s c).id,tries:=s.tries+1,back:=min (s.back+1) 5}:=⟨_,rfl⟩;have hts:t.Cq=s.Cq:=by rw[hte]
    have htb:t.back=min (s.back+1) 5:=by rw[hte]
    rw[<-htb] at hpw hps;have eX:({s with A6:=(BG s c).id,tries:=s.tries+1,back:=min (s.back+1) 5,Cq:=Bw s.Cq,wait:=Bw s.Cq/65536 % 2^(min (s.back+1) 5).toNat}:Sta)={t with Cq:=Bw t.Cq,wait:=Bw t.Cq/65536 % 2^t.back.toNat}:=by rw[hte]
    rw[eX];refine Gi [(3,.c (.ptr 3 0)),(6,.c (.ptr 6 0))] [(3,.box (Sta.cs {s with A6:=(BG s c).id,tries:=s.tries+1,back:=min (s.back+1) 5})),(6,.box noS.cs)] ?_;rw[<-hte]
    repeat'(first|refine Ad ?_|refine Aa (hps) ?_|fail)
    exact Ay
   ·have dt:=Ajv kt;have h4:=t2 kt;rw[h4]
    repeat'(first|refine AJ ?_|refine sq 15 rfl ?_|fail)
    obtain⟨t,hte⟩:∃t:Sta,t={s with A6:=(BG s c).id,tries:=1,back:=min (s.back+1) 5}:=⟨_,rfl⟩;have hts:t.Cq=s.Cq:=by rw[hte]
    have htb:t.back=min (s.back+1) 5:=by rw[hte]
    rw[<-htb] at hpw hps;have eX:({s with A6:=(BG s c).id,tries:=1,back:=min (s.back+1) 5,Cq:=Bw s.Cq,wait:=Bw s.Cq/65536 % 2^(min (s.back+1) 5).toNat}:Sta)={t with Cq:=Bw t.Cq,wait:=Bw t.Cq/65536 % 2^t.back.toNat}:=by rw[hte]
    rw[eX];refine Gi [(3,.c (.ptr 3 0)),(6,.c (.ptr 6 0))] [(3,.box (Sta.cs {s with A6:=(BG s c).id,tries:=1,back:=min (s.back+1) 5})),(6,.box noS.cs)] ?_;rw[<-hte]
    repeat'(first|refine Ad ?_|refine Aa (hps) ?_|fail)
    exact Ay
 ·have d3:=Ajv k3;by_cases kg:AH=true\/4<=CK s c
  ·rw[e2 k1 kg k3]
   repeat'(first|refine AJ ?_|refine Aa (hlv) ?_|refine sq 12 rfl ?_|(refine Av ?_ ?_<;>intro h hq)|fail)
   all_goals first
    |exact Ay
    |(exfalso;rcases kg with kg|kg
      ·simp_all
      ·first|(have:=t1 (by assumption);omega)|(have:=t2 (by assumption);omega))
  ·have ha:AH=false:=by cases AH with
    |true=>exact absurd (.inl rfl) kg
    |false=>rfl
   have hlt:CK s c<4:=by omega
   rw[e4 k1 ha hlt k3]
   repeat'(first|refine Ad ?_|refine Aa (hlv) ?_|(refine Av ?_ ?_<;>intro h hq)|fail)
   all_goals first
    |(rw[t1 (by assumption)]
      exact Ay)
    |(rw[t2 (by assumption)]
      exact Ay)
    |(exfalso;have:=t1 (by assumption);omega)
theorem YQ {l:List Sn} {x:Sn} {k:Nat} (h:k<l.length):(!(l.take (k+1)).any fun y=>decide (x=y))=if x=l.getD k default then false else !(l.take k).any fun y=>decide (x=y):=by
 rw[Go.Sx.Bq h,List.any_append,List.any_cons,List.any_nil,AkK]
 split
 ·rename_i he;rw[Aju he,Bool.or_true];rfl
 ·rename_i he;rw[Ajv he,AkK]
theorem N4 (s:Sta) (f:Fr) (hsn:Gn s.seen=true):Ak 149 [stA s,frA f] (.tup [stA (BE s f).1,upA (BE s f).2]):=by
 have hsl:=JC hsn;have hri:=LZ hsn;refine Ao func149 ntmps149 results149 fun E hS=>?_
 cases hfo:ML f s.tb.node with
 |false=>
  have e:BE s f=(s,zUp):=Akc (.inl hfo);have hd:(!ML f s.tb.node)=true:=by rw[hfo];rfl
  rw[e]
  repeat'(first|refine Ad ?_|refine Aa (Ey f s.tb.node) ?_|fail)
  exact Jr Ae (.agg rfl rfl rfl rfl (.agg rfl rfl rfl rfl .nil)) rfl (by repeat'(exact trivial))
 |true=>
  have hd:(!ML f s.tb.node)=false:=by rw[hfo];rfl
  by_cases h2:f.kind=2
  ·have e:BE s f=(s,zUp):=Akc (.inr h2);have hd2:=Aju h2;rw[e]
   repeat'(first|refine Ad ?_|refine Aa (Ey f s.tb.node) ?_|fail)
   exact Jr Ae (.agg rfl rfl rfl rfl (.agg rfl rfl rfl rfl .nil)) rfl (by repeat'(exact trivial))
  have hd2:=Ajv h2;have e0:BE s f=if f.kind=1 then(s,Sq f (YR s f)) else if f.kind=4/\f.target=s.tb.node then({s with seen:=SZ s f},Sq f (AgA s f)) else(s,Sq f true):=by
   rw[BE,Akb (by rintro(h|h);rw[hfo] at h;cases h;exact h2 h)]
  by_cases h1:f.kind=1
  ·have hd1:=Aju h1;have hd4:=Cc (f.kind=4);rw[Akc h1] at e0;rw[e0];have hho:=CP s f.BR;cases hf:Kv s.held f.BR with
   |none=>
    have e1:YR s f=true:=by rw[YR,hf]
    rw[hf] at hho;have hho':Ak 148 [stA s,AI f.BR] (AI (-1)):=hho;rw[e1]
    repeat'(first|refine Ad ?_|refine Aa (Ey f s.tb.node) ?_|refine Aa (hho') ?_|fail)
    exact Jr Ae (.agg rfl rfl rfl rfl (.agg rfl rfl rfl rfl .nil)) rfl (by repeat'(exact trivial))
   |some i=>
    have e1:YR s f=decide ((s.held.getD i default).frame≠f.number):=by rw[YR,hf]
    obtain⟨hi,_,_⟩:=Bs hf;rw[hf] at hho;have hho':Ak 148 [stA s,AI f.BR] (AI (i:Nat)):=hho;rw[e1]
    repeat'(first|refine Ad ?_|refine Aa (Ey f s.tb.node) ?_|refine Aa (hho') ?_|fail)
    all_goals first
     |(exfalso;omega)
     |exact Jr Ae (.agg rfl rfl rfl rfl (.agg rfl rfl rfl rfl .nil)) rfl (by repeat'(exact trivial))
  have hd1:=Ajv h1;rw[Akb h1] at e0;by_cases h4:f.kind=4
  ·have hd4:=Aju h4;by_cases h5:f.target=s.tb.node
   ·have hd5:=Aju h5;rw[Akc ⟨h4,h5⟩] at e0;rw[e0];have hse:=Wp s.seen (HC f) (by omega) hri
    repeat'(first|refine Af ?_|refine Aa (Ey f s.tb.node) ?_|fail)
    refine Ax (ι:=Nat) (fun k=>AN [(2,.c (.ptr 2 0)),(4,.c (.ptr 4 0)),(5,.c (.ptr 5 0)),(6,.c (.ptr 6 0)),(8,.c (.ptr 8 0)),(9,AI k)] [(2,.box s.cs),(4,.box noS.cs),(5,.box zUp.cs),(6,.box (Sq f (!(s.seen.take k).any fun y=>decide (HC f=y))).cs),(8,.box (HC f).cs)])
     (fun k=>k<=s.seen.length) (fun k=>s.seen.length-k) 0 (Ake _) ?_ ?_
    ·exact Al
    ·intro k hk;rcases Akf k s.seen.length with hlt|hge
     ·have dlt:=Cz k s.seen.length;have hst:=YQ (x:=HC f) hlt
      repeat'(first|refine Af ?_|refine XK (gk rfl) rfl rfl rfl rfl rfl rfl rfl ?_|(refine Av ?_ ?_<;>intro h hq)|fail)
      ·have he:s.seen.getD k default=HC f:=Agl hq;rw[Akc he.symm] at hst;refine BU (k+1) ?_;rw[hst];exact Al
      ·have he:¬s.seen.getD k default=HC f:=fun e=>hq (Agk e)
       rw[Akb (fun e=>he e.symm)] at hst;refine BU (k+1) ?_;rw[hst];exact Al
     ·have dlt:=CM k s.seen.length;have hk':k=s.seen.length:=by omega
      subst hk';rw[AkB]
      repeat'(first|refine Ad ?_|refine Aa (hse) ?_|fail)
      exact Jr Ae (.agg rfl rfl rfl rfl (.agg rfl rfl rfl rfl .nil)) rfl (by repeat'(exact trivial))
   ·have hd5:=Ajv h5;rw[Akb (fun h=>h5 h.2)] at e0;rw[e0]
    repeat'(first|refine Ad ?_|refine Aa (Ey f s.tb.node) ?_|fail)
    exact Jr Ae (.agg rfl rfl rfl rfl (.agg rfl rfl rfl rfl .nil)) rfl (by repeat'(exact trivial))
  ·have hd4:=Ajv h4;rw[Akb (fun h=>h4 h.1)] at e0;rw[e0]
   repeat'(first|refine Ad ?_|refine Aa (Ey f s.tb.node) ?_|fail)
   exact Jr Ae (.agg rfl rfl rfl rfl (.agg rfl rfl rfl rfl .nil)) rfl (by repeat'(exact trivial))
theorem Zk {l:List Pk} {p:Pk} (h:p∈l):∃i,JR l p.id=some i:=by
 cases hf:JR l p.id with
 |some i=>exact⟨i,rfl⟩
 |none=>
  have:=EB hf p h;simp at this
theorem Mq (a:Ac) (o:Int):(QX a o).kind=a.kind:=by unfold QX;split<;>rfl
theorem WC (a:Ac) (o:Int):(QX a o).BM=a.BM:=by unfold QX;split<;>rfl
theorem Uy {s:Sta} {slot:Int} {c:TC} (hck:AU s=0) (h1:(CA s slot c).kind=1) (h2:¬(CA s slot c).BM=1):
  G0 s c=(BG s c,true)/\BG s c∈s.qu.Ab/\CA s slot c={Afj s (BG s c) with offset:=c.offset}/\((c.kind=2/\c.send=true/\(C1 s.qu c.peer).2=true)\/(c.kind=3/\(EF s).isSome=true/\s.wait=0)):=by
 obtain⟨_,hQ,_,_⟩:=Ba hck;unfold CA at h1 h2 ⊢;rw[Mq] at h1;rw[WC] at h2;unfold GU at h1 h2 ⊢;by_cases k1:c.kind=1
 ·rw[Akc k1] at h1 h2;unfold RJ at h1 h2
  split at h1
  ·cases h1
  ·rename_i hsd;rw[Akb hsd] at h2
   split at h1
   ·cases h1
   ·rename_i i hh;rw[hh] at h2;dsimp only at h2
    split at h1
    ·cases h1
    ·rename_i hn;rw[Akb hn] at h2;exact absurd rfl h2
 ·rw[Akb k1] at h1 h2 ⊢;by_cases k2:c.kind=2
  ·rw[Akc k2] at h1 h2 ⊢;unfold XA at h1 h2 ⊢
   split at h1
   ·cases h1
   ·rename_i hsd;have hsd':c.send=true:=by simpa using hsd
    rw[Akb hsd] at h2 ⊢
    split at h1
    ·rename_i hq;rw[Akc hq];have hs:BG s c=(C1 s.qu c.peer).1:=by rw[BG,Akb (by omega)]
     refine⟨?_,?_,?_,.inl ⟨k2,hsd',hq⟩⟩
     ·rw[G0,Akc ⟨k2,hsd'⟩,Akc hq,hs]
     ·rw[hs];cases hf:TP s.qu.Ab c.peer with
      |none=>rw[He hQ hf] at hq;cases hq
      |some i=>
       rw[Hc hQ hf];obtain⟨hi,_,_⟩:=Bs hf;exact BS hi
     ·rw[hs];rfl
    ·cases h1
  ·rw[Akb k2] at h1 h2 ⊢;by_cases k3:c.kind=3
   ·rw[Akc k3] at h1 h2 ⊢;unfold XB at h1 h2 ⊢
    split at h1
    ·rename_i hq;rw[Akc hq];have hs:BG s c=YA s (EF s):=by rw[BG,Akc k3]
     refine⟨?_,?_,?_,.inr ⟨k3,hq⟩⟩
     ·rw[G0,Akb (fun h=>k2 h.1),Akc k3,hs,hq.1]
     ·rw[hs];cases hf:EF s with
      |none=>rw[hf] at hq;cases hq.1
      |some i=>
       obtain⟨hi,_,_⟩:=Bs hf;exact BS hi
     ·rw[hs];rfl
    ·cases h1
   ·rw[Akb k3] at h1;cases h1
theorem Afc {s:Sta} {slot:Int} {c:TC} (h1:(CA s slot c).kind=2):(G0 s c).2=decide ((EF s).isSome=true/\c.kind=3)/\((c.kind≠3/\c.send=false)\/c.kind=3):=by
 unfold CA at h1;rw[Mq] at h1;unfold GU at h1;by_cases k1:c.kind=1
 ·rw[Akc k1] at h1;unfold RJ at h1
  split at h1
  ·rename_i hsd;refine⟨?_,.inl ⟨by omega,hsd⟩⟩;rw[G0,Akb (fun h=>by omega),Akb (by omega),Ajv (fun h=>by omega)]
  ·split at h1
   ·cases h1
   ·split at h1
    ·cases h1
    ·cases h1
 ·rw[Akb k1] at h1;by_cases k2:c.kind=2
  ·rw[Akc k2] at h1;unfold XA at h1
   split at h1
   ·rename_i hsd;refine⟨?_,.inl ⟨by omega,hsd⟩⟩;rw[G0,Akb (fun h=>by rw[hsd] at h;cases h.2),Akb (by omega),Ajv (fun h=>by omega)]
   ·split at h1
    ·cases h1
    ·cases h1
  ·rw[Akb k2] at h1;by_cases k3:c.kind=3
   ·refine⟨?_,.inr k3⟩;rw[G0,Akb (fun h=>k2 h.1),Akc k3];simp[k3]
   ·rw[Akb k3] at h1;cases h1
theorem Z3 {s:Sta} {c:TC} (k1:c.kind=1):G0 s c=(noP,false):=by
 rw[G0,Akb (fun h=>by omega),Akb (by omega)]
end Go.Proofs
