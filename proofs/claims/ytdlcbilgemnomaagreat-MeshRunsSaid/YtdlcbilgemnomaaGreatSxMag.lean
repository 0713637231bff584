/-
  Functions' results, and laws on them. No condition.
-/
import Derived.Test.YtdlcbilgemnomaaGreatSxMae
set_option linter.unusedSimpArgs false
set_option linter.unusedVariables false
set_option maxRecDepth 4000
set_option maxHeartbeats 16000000
open Go.Proofs.Tryz
namespace Go.Proofs.P
open Go Go.Sx
attribute [local irreducible] VR VC thenQ blockQ
theorem O5 (l:List Nb) (r:Rk) (m:Int):Ak 152 [AD (nbs l),rkA r,AI m] (.tup [rkA (select' l r m).1,AB (select' l r m).2.1,AI (select' l r m).2.2]):=by
 refine Ao func152 ntmps152 results152 fun E hS=>?_
 repeat'(first|refine AJ ?_|refine Am (CQ l) ?_|refine Am (Db r) ?_|(refine HZ rfl ?_ ?_<;>intro h<;>have hq:=h<;>(try simp only[Ajw,Ajx,Int.not_lt,Int.not_le,ne_eq,AjF,Bool.not_eq_true',Bool.not_eq_false',CZ,MC] at hq))|refine sq 8 rfl ?_|refine Cy ?_|(refine LG rfl ?_ ?_<;>intro h<;>have hq:=h<;>(try simp only[Ajw,Ajx,Int.not_lt,Int.not_le,ne_eq,AjF,Bool.not_eq_true',Bool.not_eq_false',CZ,MC] at hq))|fail)
 all_goals first
  |(refine H7 Ae rfl rfl rfl rfl rfl rfl ?_ ?_ ?_
    all_goals unfold select'
    all_goals repeat' split
    all_goals first|rfl|(exfalso;simp_all;done)|(exfalso;simp only[CZ,MC,ne_eq,AjF] at *;omega)|(exfalso;simp_all [inR];omega))
  |skip
 have hc:checkNb l=0:=by simp_all
 have hr:rkErr r=0:=by simp_all
 have hm:inR m 0 65535=true:=by simp only[CZ];omega
 have hn:¬r.node=0:=by simp_all
 have hlen:=(Bu hc).1;have hall:=(Bu hc).2;refine Et (AN [(0,AD (nbs l)),(2,AI m),(4,.c (.ptr 4 0)),(6,.c (.ptr 6 0)),(7,AB false),(8,AI 0),(9,.c (.ptr 9 0))] [(4,.box r.cs),(6,.box AaF),(9,.box (CB l r).cs)]) ?_ ?_
 ·have hatt:=VD hc (CG l r.parent);have hix:=CP l r.parent;rw[HO hc r.parent] at hix;cases hf:BD l r.parent with
  |true=>
   rw[hf] at hix;have hb:=(BP.1 hf).1;have hix':Ak 150 [AD (nbs l),AI r.parent] (AI (CG l r.parent:Nat)):=hix
   repeat'(first|refine Ad ?_|refine Am (hix') ?_|refine GL (Jd _ _ (by omega)) (gk rfl) rfl rfl rfl rfl rfl rfl ?_|refine Am (O4 r _ _ _) ?_|(refine Av ?_ ?_<;>intro h hq)|fail)
   all_goals first
    |(exfalso;omega)
    |(refine By ⟨rfl,rfl,rfl,rfl,rfl,rfl,rfl,tt0⟩ ⟨rfl,rfl,Xp ?_ rfl,tt0⟩ rfl
      unfold CB
      first|(rw[Akc hq];rfl)|(rw[Akb (by omega)];rfl)|(rw[Akc (by omega),Akc hf];rfl))
  |false=>
   rw[hf] at hix;have hix':Ak 150 [AD (nbs l),AI r.parent] (AI (-1)):=hix
   repeat'(first|refine Ad ?_|refine Am (hix') ?_|refine Am (Mc r) ?_|(refine Av ?_ ?_<;>intro h hq)|fail)
   all_goals first
    |(exfalso;omega)
    |(refine By ⟨rfl,rfl,rfl,rfl,rfl,rfl,rfl,tt0⟩ ⟨rfl,rfl,Xp ?_ rfl,tt0⟩ rfl
      unfold CB
      first|(rw[Akb (by omega)];rfl)|(rw[Akc (by omega),Akb (by rw[hf];decide)];rfl))
 refine Et (AN [(4,.c (.ptr 4 0)),(6,.c (.ptr 6 0)),(7,AB false),(8,AI 0),(9,.c (.ptr 9 0))] [(4,.box r.cs),(6,.box AaF),(9,.box (IE l (CB l r) m).cs)]) ?_ ?_
 ·have hbs:=Tr l (CB l r);unfold QG QH at hbs;rw[Akc hc,Akc hc] at hbs;cases hb:Km l (CB l r) l.length with
  |none=>
   rw[hb] at hbs;have hbs':Ak 206 [AD (nbs l),rkA (CB l r)] (.tup [AI 0,AB false]):=hbs
   repeat'(first|refine Ad ?_|refine Am (hbs') ?_|fail)
   refine By ⟨rfl,rfl,rfl,rfl,rfl,tt0⟩ ⟨rfl,rfl,Xp ?_ rfl,tt0⟩ rfl;unfold IE LR;rw[MG hc,hb]
   rfl
  |some b=>
   rw[hb] at hbs;have hbl:=Jb hb;have hok:=Mb hb;have hrn:=Agr (Ael hok);have hatt:=VD hc b;have e0:max 0 (oI (some b))=(b:Int):=by simp only[oI];omega
   rw[e0] at hbs;have hbs':Ak 206 [AD (nbs l),rkA (CB l r)] (.tup [AI (b:Nat),AB true]):=hbs
   repeat'(first|refine Ad ?_|refine Am (hbs') ?_|refine Am (GV (l.getD b default) (by omega)) ?_|refine GL (Jd _ _ (by omega)) (gk rfl) rfl rfl rfl rfl rfl rfl ?_|refine Am (KI (CB l r) _ _ _ _) ?_|refine F2 rfl rfl rfl rfl rfl ?_|(refine Av ?_ ?_<;>intro h hq)|fail)
   all_goals refine By ⟨rfl,rfl,rfl,rfl,rfl,tt0⟩ ⟨rfl,rfl,Xp ?_ rfl,tt0⟩ rfl
   all_goals unfold IE LR
   all_goals rw[MG hc,hb,KC hc _ hb]
   all_goals simp only[Option.isSome_some,AkZ]
   all_goals simp only[show(KM l b).n=l.getD b default from rfl,show(KM l b).path=KZ (l.getD b default) from rfl,Aks,Ajw]
   all_goals first
    |(rw[Akc (by omega)];rfl)
    |(rw[Akb (by omega)];done)
    |(rw[Akb (by omega)];rfl)
 ·repeat'(first|refine Ad ?_|fail)
  refine H7 Ae rfl rfl rfl rfl rfl rfl ?_ ?_ ?_
  all_goals unfold select'
  all_goals rw[Akb (by simp[hc,hr]),Akb (by simp[hm]),Akb hn]
  all_goals rfl
theorem PB (l:List Nb):Ak 39 [AD (nbs l)] (AB (decide ((l.length:Int)<=40))):=by
 refine Ao func39 ntmps39 results39 fun E hS=>?_
 repeat'(first|refine Ad ?_|fail)
 all_goals exact AO
end Go.Proofs.P
namespace Go.Proofs.P
open Go Go.Sx
theorem Yj {r:Rk} (h:rkErr r=0):rkErr (Gv r)=0:=by
 unfold Gv
 split
 ·rename_i hn;obtain⟨h1,h2,h3,h4⟩:=Td h;refine Yi h1 h2 ?_ ?_
  ·simp only[FK] at h3 ⊢;exact h3
  ·simp only[Fg] at h4 ⊢;rw[Akb hn.2] at h4 ⊢
   split at h4
   ·simp only[AjE,Ajw] at h4 ⊢;simp only[if_true,decide_true,AkZ];exact h4.2
   ·simp only[AjE,Ajw] at h4;simp only[if_true,decide_true,AkZ,Aks,Ajw]
    left;omega
 ·exact h
theorem UU {r:Rk} (h:rkErr r=0):(0<=r.node/\r.node<=31)/\0<=r.epoch/\r.epoch<=65535:=by
 obtain⟨h1,h2,_,_⟩:=Td h;simp only[Dn,CZ] at h1 h2;exact⟨h1,h2⟩
structure Fu (r:Rk) (fr e k c:Int):Prop where
 right:rkErr r=0
 Pd:r.node≠0
 fr:0<=fr/\fr<=31/\fr≠r.node
 adv:(1<=e/\e<=65535)/\0<=k/\k<=65534
 cost:1<=c/\c<=1023
 AbS:r.epoch<e\/(e=r.epoch/\k<r.least)
 path:k+c<65535
theorem Nn {r:Rk} {fr e k c:Int} (h:Fu r fr e k c):GH r fr e k c=({BO r e with parent:=fr,heard:=k,rank:=k+c},0):=by
 have ha:Ux e k=true:=by rw[E1];exact h.adv
 have hn:Dn fr=true:=by simp only[Dn,CZ];exact⟨h.fr.1,h.fr.2.1⟩
 have hc:inR c 1 1023=true:=by rw[CZ];exact h.cost
 have hf:Ky r e k=true:=by
  have:=h.AbS;simp only[Ky,h.right,ha,AjE,Aks,Ajw,ne_eq];exact⟨⟨⟨tt0,h.Pd⟩,tt0⟩,this⟩
 unfold GH;rw[Akb (by simp[h.right]),Akb (by simp[ha,hn,hc,h.fr.2.2]),Akb (by simp[hf]),Akb (by have:=h.path;omega)]
theorem Aci (r:Rk) (fr e k c:Int):Fu r fr e k c\/(GH r fr e k c).2≠0:=by
 unfold GH
 split
 ·right;decide
 ·rename_i h1
  split
  ·right;decide
  ·rename_i h2
   split
   ·right;decide
   ·rename_i h3
    split
    ·right;decide
    ·rename_i h4
     left
     simp only[ne_eq,AjF] at h1;simp only[Bool.not_eq_false,AjE,Ajw,E1,CZ,Dn] at h2;simp only[Bool.not_eq_false,Ky,AjE,Ajw,Aks] at h3;exact⟨h1,h3.1.1.2,⟨h2.1.1.1.1,h2.1.1.1.2,h2.1.1.2⟩,h2.1.2,h2.2,h3.2,by omega⟩
def CN (r:Rk) (fr e k c:Int):Rk:={BO r e with parent:=fr,heard:=k,rank:=k+c}
theorem IB {r:Rk} {e:Int} (h:r.epoch<=e):(BO r e).epoch=e:=by
 unfold BO;split
 ·rfl
 ·omega
theorem Kj {r:Rk} {fr e k c:Int} (h:Fu r fr e k c):rkErr (CN r fr e k c)=0:=by
 obtain⟨h1,h2,h3,h4⟩:=Td h.right;have hfe:=h.AbS;have ha:=h.adv;have hc:=h.cost;have hp:=h.path;have hfr:=h.fr;have hnr:=h.Pd;have hep:(BO r e).epoch=e:=IB (by omega);have hnode:(BO r e).node=r.node:=by unfold BO;split<;>rfl
 have hls:k<(BO r e).least/\inR (BO r e).least 1 65535=true:=by
  unfold BO
  split
  ·exact⟨by dsimp only;omega,by dsimp only;decide⟩
  ·simp only[FK,Aks,AjE,Ajw] at h3;have:inR r.least 1 65535=true:=h3.resolve_right (fun q=>hnr q.1);exact⟨by omega,this⟩
 refine Yi ?_ ?_ ?_ ?_
 ·show Dn (BO r e).node=true;rw[hnode];exact h1
 ·show inR (BO r e).epoch 0 65535=true;rw[hep,CZ];omega
 ·simp only[FK,CN,hls.2,Bool.true_or]
 ·simp only[Fg,CN,hnode,hep];rw[Akb hnr,Akb (by omega)];simp only[AjE,Ajw,Dn,CZ,ne_eq];have:=hls.1;omega
theorem Aac {r:Rk} {fr e k c:Int} (h:Fu r fr e k c):Fu (CN r fr e k c) fr e k c:=by
 have hfe:=h.AbS;have hnode:(BO r e).node=r.node:=by unfold BO;split<;>rfl
 have hep:(BO r e).epoch=e:=IB (by omega);refine⟨Kj h,?_,?_,h.adv,h.cost,.inr ⟨hep.symm,?_⟩,h.path⟩
 ·show(BO r e).node≠0;rw[hnode];exact h.Pd
 ·refine⟨h.fr.1,h.fr.2.1,?_⟩;show fr≠(BO r e).node;rw[hnode];exact h.fr.2.2
 ·show k<(BO r e).least;have ha:=h.adv;unfold BO
  split
  ·dsimp only;omega
  ·omega
theorem PT {r:Rk} {fr e k c:Int} (h:Fu r fr e k c):CN (CN r fr e k c) fr e k c=CN r fr e k c:=by
 have hfe:=h.AbS;have hep:(BO r e).epoch=e:=IB (by omega);have:BO (CN r fr e k c) e=CN r fr e k c:=by
  unfold BO;rw[Akb];show ¬(BO r e).epoch<e;omega
 calc CN (CN r fr e k c) fr e k c={BO (CN r fr e k c) e with parent:=fr,heard:=k,rank:=k+c}:=rfl
  _={CN r fr e k c with parent:=fr,heard:=k,rank:=k+c}:=by rw[this]
  _=CN r fr e k c:=rfl
theorem KG {r:Rk} {e k c:Int} (hr:rkErr r=0) (hp:r.parent≠-1) (ha:Ux e k=true) (hc:inR c 1 1023=true):(update' r e k c).2=0 /\
  ((e<r.epoch/\(update' r e k c).1=r)\/(r.epoch<=e/\Fu r r.parent e k c/\(update' r e k c).1=CN r r.parent e k c)\/(r.epoch<=e/\(update' r e k c).1=Gv (BO r e))):=by
 unfold update';rw[Akb (by simp[hr]),Akb (by simp[ha,hc]),Akb hp]
 split
 ·exact⟨rfl,.inl ⟨‹_›,rfl⟩⟩
 ·rename_i he;rcases Aci r r.parent e k c with h|h
  ·rw[Nn h];exact⟨rfl,.inr (.inl ⟨by omega,h,rfl⟩)⟩
  ·rw[Akb h];exact⟨rfl,.inr (.inr ⟨by omega,rfl⟩)⟩
theorem G4 {r:Rk} (h:rkErr r=0):(Gv r).parent=-1:=by
 unfold Gv
 split
 ·rfl
 ·rename_i hn;obtain⟨_,_,_,h4⟩:=Td h;have h0:r.node=0:=by
   by_cases hz:r.node=0
   ·exact hz
   ·exact absurd ⟨h,hz⟩ hn
  unfold Fg at h4;rw[Akc h0] at h4;simp only[AjE,Ajw] at h4;exact h4.1.1.1.2
theorem GD {l:List Nb} (h:checkNb l=0) {k:Nat} (hk:k<l.length):inR (JZ (l.getD k default).att (l.getD k default).ack) 1 1023=true:=by
 have⟨_,h1,h2⟩:=CT ((Bu h).2 k hk);generalize (l.getD k default).att=a at *;generalize (l.getD k default).ack=b at *;rw[CZ];unfold JZ
 split
 ·omega
 ·split
  ·omega
  ·split
   ·omega
   ·have hb:0<b:=by omega
    have h3:1<=(128*a+b-1)/b:=by
     rw[Int.le_ediv_iff_mul_le hb];omega
    omega
theorem DN {l:List Nb} (h:checkNb l=0) {k:Nat} (hk:k<l.length):Ux (l.getD k default).epoch (l.getD k default).rank=true/\0<=(l.getD k default).node/\(l.getD k default).node<=31:=by
 have⟨h0,_,_⟩:=CT ((Bu h).2 k hk);simp only[C5,AjE,CZ] at h0;rw[E1];exact⟨⟨h0.1.1.2,h0.1.2⟩,h0.1.1.1⟩
theorem AeO {l:List Nb} (h:checkNb l=0) {b:Nat} (hb:b<l.length):BD l (l.getD b default).node=true/\CG l (l.getD b default).node=b:=by
 obtain⟨h1,h2,h3⟩:=Jm h (l.getD b default).node;have hge:CG l (l.getD b default).node<=b:=by
  rcases Akf b (CG l (l.getD b default).node) with hl|hg
  ·have:=h2 b hl;omega
  ·exact hg
 have heq:CG l (l.getD b default).node=b:=by
  rcases Akf (CG l (l.getD b default).node) b with hl|hg
  ·have:=Jg h hl hb;have:=h3 _ (Akd _) (by omega);omega
  ·omega
 exact⟨by rw[BP,heq];exact⟨hb,rfl⟩,heq⟩
theorem JJ {l:List Nb} {r:Rk}:∀{k b:Nat},Km l r k=some b->∀i,i<k->N9 r (l.getD i default)=true->KD (l.getD i default) (l.getD b default)=false
 |0,b,h,_,_,_=>by cases h
 |k+1,b,h,i,hi,hok=>by
  unfold Km at h;by_cases ho:N9 r (l.getD k default)=true
  ·rw[Akc ho] at h;cases hr:Km l r k with
   |none=>
    rw[hr] at h;injection h with h;subst h
    by_cases hik:i=k
    ·subst hik;simp[KD]
    ·exfalso;have:∀j,Km l r j=none->∀i,i<j->N9 r (l.getD i default)=false:=by
      intro j
      induction j with
      |zero=>intro _ i hi;omega
      |succ j ih=>
       intro hn i hi;unfold Km at hn;by_cases hoj:N9 r (l.getD j default)=true
       ·rw[Akc hoj] at hn
        split at hn
        ·cases hn
        ·split at hn<;>cases hn
       ·rw[Akb hoj] at hn;by_cases hij:i=j
        ·subst hij;simpa using hoj
        ·exact ih hn i (by omega)
     rw[this k hr i (by omega)] at hok;cases hok
   |some b0=>
    rw[hr] at h;simp only at h
    split at h
    ·rename_i hbt;injection h with h;subst h
     by_cases hik:i=k
     ·subst hik;simp[KD]
     ·have h2:=JJ hr i (by omega) hok;simp only[KD,Aks,AjE,Ajw] at hbt;simp only[KD,Bool.or_eq_false_iff,Ala,Ajx] at h2 ⊢;omega
    ·rename_i hbt;injection h with h;subst h
     by_cases hik:i=k
     ·subst hik;simpa using hbt
     ·exact JJ hr i (by omega) hok
  ·rw[Akb ho] at h;by_cases hik:i=k
   ·subst hik;exact absurd hok ho
   ·exact JJ h i (by omega) hok
end Go.Proofs.P
namespace Go.Proofs.P
open Go Go.Sx
attribute [local irreducible] VR VC thenQ blockQ
abbrev AhJ (l:List Nb) (s:Rk) (b:Nat):Rk×Int:=update' s (l.getD b default).epoch (l.getD b default).rank (JZ (l.getD b default).att (l.getD b default).ack)
abbrev Jp (l:List Nb) (s:Rk) (b:Nat):Rk:=CN s (l.getD b default).node (l.getD b default).epoch (l.getD b default).rank (JZ (l.getD b default).att (l.getD b default).ack)
abbrev PW (l:List Nb) (s:Rk) (b:Nat):Prop:=Fu s (l.getD b default).node (l.getD b default).epoch (l.getD b default).rank (JZ (l.getD b default).att (l.getD b default).ack)
theorem IA (r:Rk) (e:Int):(BO r e).node=r.node:=by unfold BO;split<;>rfl
theorem Q8 (r:Rk):(Gv r).node=r.node:=by unfold Gv;split<;>rfl
theorem LU {l:List Nb} {s:Rk} (h:s.parent<0):CB l s=s:=by unfold CB;rw[Akb (by omega)]
theorem OT {l:List Nb} (hl:checkNb l=0) {s:Rk} {b:Nat} (hb:b<l.length) (h:s.parent=(l.getD b default).node):CB l s=(AhJ l s b).1:=by
 obtain⟨h1,h2⟩:=AeO hl hb;have:=(DN hl hb).2.1;unfold CB;rw[Akc (by omega),h,Akc h1,h2]
theorem Nv {q:Rk} {fr e k c:Int} (h:Fu q fr e k c):update' (CN q fr e k c) e k c=(CN q fr e k c,0):=by
 have h2:=Aac h;have hp:(CN q fr e k c).parent=fr:=rfl;have hfe:=h.AbS;have hep:(CN q fr e k c).epoch=e:=IB (by omega);have ha:Ux e k=true:=by rw[E1];exact h.adv
 have hc:inR c 1 1023=true:=by rw[CZ];exact h.cost
 have hfr:=h.fr;unfold update';rw[Akb (by simp[h2.right]),Akb (by simp[ha,hc]),Akb (by rw[hp];omega),Akb (by rw[hep];omega),hp,Nn h2,Akc rfl];exact Prod.ext (PT h) rfl
theorem JA {l:List Nb} (hl:checkNb l=0) {s:Rk} {b:Nat} (hb:b<l.length) (h:PW l s b):CB l (Jp l s b)=Jp l s b:=by
 rw[OT hl hb rfl];exact congrArg Prod.fst (Nv h)
theorem I6 {l:List Nb} (hl:checkNb l=0) {r:Rk} (hr:rkErr r=0) (hn:r.node≠0):rkErr (CB l r)=0/\(CB l r).node=r.node /\
  (((CB l r).parent=-1)\/CB l r=r\/∃b,b<l.length/\r.parent=(l.getD b default).node/\PW l r b/\CB l r=Jp l r b):=by
 by_cases hp:r.parent<0
 ·rw[LU hp];exact⟨hr,rfl,.inr (.inl rfl)⟩
 by_cases hf:BD l r.parent=true
 ·obtain⟨hb,he⟩:=BP.1 hf;obtain⟨ha,_⟩:=DN hl hb;rw[OT hl hb he.symm];obtain⟨_,h⟩:=KG hr (by omega) ha (GD hl hb);rcases h with⟨_,h⟩|⟨_,hc,h⟩|⟨_,h⟩
  ·rw[h];exact⟨hr,rfl,.inr (.inl rfl)⟩
  ·rw[h];have hc':PW l r (CG l r.parent):=by unfold PW;rw[he];exact hc
   refine⟨Kj hc,IA _ _,.inr (.inr ⟨_,hb,he.symm,hc',?_⟩)⟩;unfold Jp;rw[he]
  ·rw[h];rw[E1] at ha;have hb':=O1 hr ha.1 (show r.parent≠-1 by omega);exact⟨Yj hb',by rw[Q8,IA],.inl (G4 hb')⟩
 ·have e:CB l r=Gv r:=by unfold CB;rw[Akc (by omega),Akb hf]
  rw[e];exact⟨Yj hr,Q8 _,.inl (G4 hr)⟩
theorem SU {l:List Nb} (hl:checkNb l=0) {r:Rk} (hr:rkErr r=0) (hn:r.node≠0):CB l (CB l r)=CB l r:=by
 obtain⟨_,_,h⟩:=I6 hl hr hn;rcases h with h|h|⟨b,hb,_,hc,h⟩
 ·exact LU (by omega)
 ·rw[h];exact h
 ·rw[h];exact JA hl hb hc
theorem wrap_small {a:Int} (h:-9223372036854775808<=a/\a<=9223372036854775807):IntKind.i64.wrap a=a:=wrap_i64 h
theorem Tx {l:List Nb} (hl:checkNb l=0) {b:Nat} (hb:b<l.length):KZ (l.getD b default)=(l.getD b default).rank+JZ (l.getD b default).att (l.getD b default).ack:=by
 have h1:=(DN hl hb).1;have h2:=GD hl hb;rw[E1] at h1;rw[CZ] at h2;exact wrap_small (by omega)
theorem RY {l:List Nb} (hl:checkNb l=0) {s:Rk} {b:Nat} (hb:b<l.length) (h:N9 s (l.getD b default)=true):PW l s b:=by
 have h1:=DN hl hb;have h2:=GD hl hb;have h3:=Tx hl hb;rw[E1] at h1;rw[CZ] at h2;simp only[N9,Ky,AjE,Aks,Ajw,ne_eq] at h;exact⟨h.1.2.1.1.1,h.1.2.1.1.2,⟨h1.2.1,h1.2.2,h.1.1⟩,h1.1,h2,h.1.2.2,by omega⟩
theorem Kf {l:List Nb} (hl:checkNb l=0) {s:Rk} {m:Int} (h:LR l s m=true):∃b,Km l s l.length=some b/\b<l.length/\N9 s (l.getD b default)=true/\PW l s b/\IE l s m=Jp l s b /\
  (s.parent=-1\/s.epoch<(l.getD b default).epoch\/IntKind.i64.wrap (KZ (l.getD b default)+m)<s.rank):=by
 have h':=h;unfold LR at h;simp only[AjE,Aks,Ajw] at h;rw[MG hl] at h;obtain⟨b,hb⟩:=Akk.1 h.1;rw[KC hl _ hb] at h;have hbl:=Jb hb;have hok:=Mb hb;have hc:=RY hl hbl hok;refine⟨b,hb,hbl,hok,hc,?_,?_⟩
 ·unfold IE;rw[Akc h',KC hl _ hb];exact congrArg Prod.fst (Nn hc)
 ·rcases h.2 with(h2|h2)|h2
  ·exact .inl h2
  ·exact .inr (.inl h2)
  ·exact .inr (.inr h2)
theorem V3 {l:List Nb} (hl:checkNb l=0) {s:Rk} {m:Int} (hm:0<=m/\m<=65535) {b:Nat} (hb:Km l s l.length=some b):LR l (Jp l s b) m=false:=by
 have hbl:=Jb hb;have hok:=Mb hb;have hc:=RY hl hbl hok;cases ht:LR l (Jp l s b) m with
 |false=>rfl
 |true=>
  exfalso;obtain⟨b',hb',hbl',hok',hc',_,h⟩:=Kf hl ht;have hep:(Jp l s b).epoch=(l.getD b default).epoch:=IB (by have:=hc.AbS;omega);have hfe:=hc.AbS;have hfe':=hc'.AbS;have hok2:N9 s (l.getD b' default)=true:=by
   simp only[N9,AjE,Ajw,ne_eq] at hok' ⊢;refine⟨⟨?_,?_⟩,hok'.2⟩
   ·have:=hok'.1.1;rw[show(Jp l s b).node=s.node from IA _ _] at this;exact this
   ·simp only[Ky,AjE,Aks,Ajw,ne_eq];refine⟨⟨⟨hc.right,hc.Pd⟩,(DN hl hbl').1⟩,?_⟩;by_cases he:s.epoch<(l.getD b default).epoch
    ·left;omega
    ·have hls:(Jp l s b).least=s.least:=by
      show(BO s _).least=s.least;unfold BO;rw[Akb he]
     omega
  have hnb:=JJ hb b' hbl' hok2;simp only[KD,Bool.or_eq_false_iff,Ala,Ajx] at hnb;have hp:(Jp l s b).parent=(l.getD b default).node:=rfl;have hrk:(Jp l s b).rank=KZ (l.getD b default):=(Tx hl hbl).symm;have h0:=(DN hl hbl).2.1;have h1:=DN hl hbl';have h2:=GD hl hbl';have h3:=Tx hl hbl';rw[E1] at h1;rw[CZ] at h2;simp only[N9,AjE,Ajw] at hok2;rw[wrap_small (by omega)] at h;omega
structure Ahi (l:List Nb) (r a:Rk) (m:Int):Prop where
 right:rkErr a=0
 node:a.node=r.node
 CB:CB l a=a
 take:LR l a m=false
theorem X4 {l:List Nb} (hl:checkNb l=0) {r:Rk} (hr:rkErr r=0) (hn:r.node≠0) {m:Int} (hm:0<=m/\m<=65535):Ahi l r (IE l (CB l r) m) m:=by
 obtain⟨h1,h2,_⟩:=I6 hl hr hn;by_cases ht:LR l (CB l r) m=true
 ·obtain⟨b,hb,hbl,hok,hc,he,_⟩:=Kf hl ht;rw[he];exact⟨Kj hc,(IA _ _).trans h2,JA hl hbl hc,V3 hl hm hb⟩
 ·have e:IE l (CB l r) m=CB l r:=by unfold IE;rw[Akb ht]
  rw[e];exact⟨h1,h2,SU hl hr hn,by simpa using ht⟩
abbrev Mh (p:Nb->Bool):List DV->DV->Prop:=fun ds r=>∃x:Nb,ds=[.agg x.enc]/\r=.d (.bool (p x))
def Ft (l:List Nb) (p:Nb->Bool):Option Nat:=(List.range l.length).find? fun i=>p (l.getD i default)
theorem Zi (l:List Nb) (p:Nb->Bool):Ak 117 [AD (nbs l),.clo (Mh p)] (AI (oI (Ft l p))):=by
 refine Ao func117 ntmps117 results117 fun E hS=>?_
 refine Bz (t:=0) rfl fun hb=>?_
 repeat'(first|refine Af ?_|fail)
 refine Ax (ι:=Nat) (fun k=>AN [(0,AD (nbs l)),(1,.clo (Mh p)),(7,AI l.length),(8,AI k)] []) (fun k=>k<=l.length/\∀i,i<k->p (l.getD i default)=false) (fun k=>l.length-k) 0 ⟨Ake _,fun i hi=>absurd hi (Aj9 _)⟩ ?_ ?_
 ·exact By ⟨rfl,rfl,rfl,rfl,tt0⟩ trivial rfl
 ·intro k hk
  repeat'(first|refine Af ?_|refine F4 (⟨_,rfl,rfl⟩) (gk rfl) rfl rfl rfl rfl ?_|(refine Av ?_ ?_<;>intro h hq)|fail)
  ·refine Aw Ae rfl ?_;rw[Ft,It hk.2 (by omega) h];rfl
  ·refine⟨k+1,⟨by omega,fun i hi=>?_⟩,by omega,By ⟨rfl,rfl,rfl,rfl,tt0⟩ trivial rfl⟩;by_cases hik:i<k
   ·exact hk.2 i hik
   ·have:i=k:=by omega
    subst this;exact h
  ·refine Aw Ae rfl ?_;have:k=l.length:=by omega
   subst this;rw[Ft,MR hk.2];rfl
def Rk.enc (r:Rk):List D:=[.int .i64 r.node,.int .i64 r.epoch,.int .i64 r.parent,.int .i64 r.heard,.int .i64 r.rank,.int .i64 r.least]
end Go.Proofs.P
namespace Go.Proofs.P
open Go Go.Sx
attribute [local irreducible] VR VC thenQ blockQ retL
theorem D7 (l:List Nb) (hl:l.length<=100000):FnS Tryz.prog 182 [AD (nbs l)] [] (.c (.row 7 l.length)) [(7,.row 93 6 (rowOf Nb.enc l))]:=by
 refine Ao func182 ntmps182 results182 fun E hS=>?_
 refine AG ?_
 repeat'(first|refine AJ ?_|refine sq 1 rfl ?_|fail)
 refine Dw ?_;refine Dw ?_;refine GM rfl rfl rfl rfl fun b hb=>?_
 repeat'(first|refine Ad ?_|refine Ap ?_|(refine Av ?_ ?_<;>intro h hq)|fail)
 ·have h0:l=[]:=Akm (hb (by assumption));subst h0;exact Ag (le_nil (T:=93) (sz:=6) (nm:=7) (t:=2) rfl rfl) (BI Ae rfl rfl)
 ·refine Ag (A0 (l:=[(2,.c (.row 7 l.length))]) (b:=[(7,.row 93 6 (rowOf Nb.enc l))]) (fun n=>n) ⟨⟨_,rfl,.c (.row rfl (by simp))⟩,tt0⟩ ⟨⟨_,rfl,.CJ ?_ Ai⟩,tt0⟩ rfl (by simp only[wfL,AkD,AkJ,Bi];rfl)) (BI Ae rfl rfl);exact(Akp _).trans (Dr (enc:=Nb.enc) (sz:=6) fun _=>rfl)
theorem AbN {l:List Nb} {p:Nb->Bool} (h:Ft l p=none):∀x∈l,p x=false:=by
 intro x hx;obtain⟨i,hi,rfl⟩:=AkG hx;have:=List.find?_eq_none.1 h i (Aj2.2 hi);simpa [Ajt,AjC hi] using this
theorem AbM {l:List Nb} {p:Nb->Bool} {i:Nat} (h:Ft l p=some i):i<l.length/\p (l.getD i default)=true/\∀k,k<i->p (l.getD k default)=false:=by
 refine⟨Aj2.1 (List.mem_of_find?_eq_some h),List.find?_some (p:=fun i=>p (l.getD i default)) h,fun k hk=>?_⟩;rw[Ft,List.find?_range_eq_some] at h;simpa using h.2.2 k hk
theorem filter_none {l:List Nb} {p:Nb->Bool} (h:∀x∈l,p x=false):l.filter (fun x=>!p x)=l:=by
 rw[List.filter_eq_self];intro x hx;simp[h x hx]
theorem Bq {l:List Nb} {i:Nat} (h:i<l.length):l.take (i+1)=l.take i++[l.getD i default]:=by
 rw[Ak5,Ajt,AjC h];rfl
theorem CU {l:List Nb} {i:Nat} {x:Nb} (h:x∈l.take i):∃k,k<i/\k<l.length/\x=l.getD k default:=by
 obtain⟨k,hk,rfl⟩:=AkG h;rw[AjD] at hk;refine⟨k,by omega,by omega,?_⟩;rw[List.getElem_take,Ajt,AjC (by omega)];rfl
theorem JY {l:List Nb} {p:Nb->Bool} {i:Nat} (hi:i<l.length) (hp:p (l.getD i default)=true) (hlt:∀k,k<i->p (l.getD k default)=false):l.take i=(l.take (i+1)).filter (fun x=>!p x):=by
 rw[Bq hi,Akw,filter_none (fun x hx=>by obtain⟨k,h1,_,rfl⟩:=CU hx;exact hlt k h1)];rw[AkA (by simpa using hp)];simp
theorem FO {l L:List Nb} {k:Nat} (h3:L.length=l.length) (h5:L.drop k=l.drop k) (hk:k<l.length):L.getD k default=l.getD k default/\L.drop (k+1)=l.drop (k+1):=by
 refine⟨?_,?_⟩
 ·have:=congrArg (fun x=>x[0]?) h5;simp only[AkI,AkX] at this;rw[Ajt,Ajt,this]
 ·rw[<-AkU,<-AkU,h5]
theorem take_set {L:List Nb} {j:Nat} {x:Nb} (h:j<L.length):(L.set j x).take (j+1)=L.take j++[x]:=by
 rw[Ak5,List.take_set_of_le (Akd _)];simp[h]
theorem Ab1 (l:List Nb) (p:Nb->Bool) (hl:l.length<=100000):FnS Tryz.prog 183 [.c (.row 0 l.length),.clo (Mh p)] [(0,.row 93 6 (rowOf Nb.enc l))]
  (.c (.row 0 (l.filter fun x=>!p x).length)) [(0,.row 93 6 (rowOf Nb.enc (l.filter fun x=>!p x)))]:=by
 refine FnS.Bv (enters_of func183 (by kernel_rfl) rfl) func183 rfl ntmps183 results183 rfl (by first|rfl|(simp only[BC,wfL,Bj,AkD,AkJ,Bi];rfl)) rfl fun E=>?_
 refine AG ?_;have hidx:=Zi l p;cases hf:Ft l p with
 |none=>
  rw[hf] at hidx;have hidx':Ak 117 [AD (nbs l),.clo (Mh p)] (AI (-1)):=hidx
  repeat'(first|refine Ad ?_|refine AK [0] (hidx') ?_|fail)
  have e:l.filter (fun x=>!p x)=l:=filter_none (AbN hf);rw[e];exact L9 (BI Ae rfl rfl)
 |some i=>
  rw[hf] at hidx;obtain⟨hi,hpi,hlt⟩:=AbM hf;have hidx':Ak 117 [AD (nbs l),.clo (Mh p)] (AI (i:Nat)):=hidx
  repeat'(first|refine Af ?_|refine AK [0] (hidx') ?_|fail)
  refine Ax (ι:=Nat×Nat×List Nb) (fun q=>AN [(0,.c (.row 0 l.length)),(1,.clo (Mh p)),(5,AI q.2.1),(6,AI q.1)] [(0,.row 93 6 (rowOf Nb.enc q.2.2))])
   (fun q=>q.1<=l.length/\q.2.1<q.1/\q.2.2.length=l.length/\q.2.2.take q.2.1=(l.take q.1).filter (fun x=>!p x)/\q.2.2.drop q.1=l.drop q.1) (fun q=>l.length-q.1) (i+1,i,l) ⟨hi,Nat.lt_succ_self _,rfl,JY hi hpi hlt,rfl⟩ ?_ ?_
  ·exact By ⟨rfl,rfl,rfl,rfl,tt0⟩ ⟨rfl,tt0⟩ (by simp only[wfL,AkD,AkJ,Bi];rfl)
  ·rintro⟨k,j,L⟩ ⟨h1,h2,h3,h4,h5⟩;dsimp only at h1 h2 h3 h4 h5 ⊢
   repeat'(first|refine AJ ?_|refine F4 (⟨_,rfl,rfl⟩) (gk rfl) rfl rfl rfl rfl ?_|refine AS ?_|refine AQ ?_|refine Cn (gk rfl) rfl rfl (by omega) rfl rfl rfl ?_|refine AY ?_|refine sq 11 rfl ?_|refine BN ?_|(refine Av ?_ ?_<;>intro h hq)|fail)
   ·have hk:k<l.length:=by omega
    obtain⟨hx,hd⟩:=FO h3 h5 hk;refine⟨(k+1,j+1,L.set j (L.getD k default)),⟨by dsimp only;omega,by dsimp only;omega,by simp[h3],?_,?_⟩,by dsimp only;omega,A0 (fun n=>n) ⟨⟨_,rfl,.c (.row rfl rfl)⟩,⟨_,rfl,.clo⟩,⟨_,rfl,.c .d⟩,⟨_,rfl,.c .d⟩,tt0⟩
     ⟨⟨_,rfl,.CJ (CC rfl) Ai⟩,tt0⟩ rfl (by simp only[wfL,AkD,AkJ,Bi];rfl)⟩
    ·dsimp only;rw[take_set (by omega),h4,Bq hk,Akw,hx,AkL (by rw[<-hx];exact h)];rfl
    ·dsimp only;rw[List.drop_set_of_lt (by omega),hd]
   ·have hk:k<l.length:=by omega
    obtain⟨hx,hd⟩:=FO h3 h5 hk;refine⟨(k+1,j,L),⟨by dsimp only;omega,by dsimp only;omega,h3,?_,hd⟩,by dsimp only;omega,A0 (fun n=>n) ⟨⟨_,rfl,.c (.row rfl rfl)⟩,⟨_,rfl,.clo⟩,⟨_,rfl,.c .d⟩,⟨_,rfl,.c .d⟩,tt0⟩
     ⟨⟨_,rfl,.CJ rfl Ai⟩,tt0⟩ rfl (by simp only[wfL,AkD,AkJ,Bi];rfl)⟩
    dsimp only;rw[h4,Bq hk,Akw,AkA (by rw[<-hx,h];simp)];simp
   ·have hk:k=l.length:=by omega
    subst hk;refine E4 (nm:=0) rfl (F6 (by omega)) fun cp spare hcp hmax=>?_
    rw[An] at hcp
    repeat'(first|refine Ad ?_|refine BT ?_|refine Bb ?_|refine La (gk rfl) rfl (by exact .sub) rfl rfl rfl rfl rfl (by(simp only[An,AjJ,Ajy,AjD,AjG,AjH];omega)) ?_|fail)
    rw[AkB] at h4;have hj:(l.filter fun x=>!p x).length=j:=by rw[<-h4,AjD];omega
    rw[hj,<-h4];refine Ag (A0 (l:=[(4,.c (.row 0 j))]) (b:=[(0,.row 93 6 (rowOf Nb.enc (L.take j)))]) (fun n=>n) ⟨⟨_,rfl,.c (.row rfl rfl)⟩,tt0⟩ ⟨⟨_,rfl,.KW j ?_⟩,tt0⟩ rfl (by simp only[wfL,AkD,AkJ,Bi];rfl)) (BI Ae rfl rfl);rw[AjP,AkC (by rw[AjD,An];omega),List.take_take,Nat.min_self,Dj]
end Go.Proofs.P
