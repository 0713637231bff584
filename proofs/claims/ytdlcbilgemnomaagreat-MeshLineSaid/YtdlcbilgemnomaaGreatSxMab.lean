/-
  What functions of the program hand back, and plain laws on that. No condition.
-/
import Derived.Test.YtdlcbilgemnomaaGreatSxLibB
import Derived.Test.YtdlcbilgemnomaaGreatSxT30
import Derived.Test.YtdlcbilgemnomaaGreatSxMaa
import Derived.Test.YtdlcbilgemnomaaGreatSxLibC
set_option linter.unusedSimpArgs false
set_option linter.unusedVariables false
section
namespace Go.Proofs.T
open Go Go.Sx
set_option maxRecDepth 4000
attribute [local irreducible] VR VC thenQ blockQ retL
def Hf (a b:Int):Int:=if a<b then -1 else if b<a then 1 else 0
theorem GM (a:Int):FnS Tryz.prog 209 [AI a] [] (AB false) []:=by
 refine fb Tryz.func209 (by kernel_rfl) rfl Tryz.ntmps209 Tryz.results209 rfl rfl rfl rfl fun E hS=>?_
 repeat'(first|refine sB ?_|refine Ak rfl (by exact tt0) ?_|fail)
 all_goals exact Aw Ab rfl (by simp)
theorem GS (a b:Int):FnS Tryz.prog 154 [AI a,AI b] [] (AI (Hf a b)) []:=by
 refine fb Tryz.func154 (by kernel_rfl) rfl Tryz.ntmps154 Tryz.results154 rfl rfl rfl rfl fun E hS=>?_
 repeat'(first|refine sB ?_|refine Ak rfl (by exact tt0) ?_|(refine gC ?_;first|refine AN (GM _) (gk rfl) rfl rfl rfl rfl rfl rfl ?_)|(refine gD ?_;first|refine Ah rfl ?_|(refine Ay rfl ?_ ?_<;>intro h<;>have hq:=h<;>(try simp only[hqs] at hq)))|fail)
 all_goals refine AG Ab rfl ?_
 all_goals unfold Hf
 all_goals repeat' split
 all_goals first|rfl|(exfalso;simp_all;done)|(exfalso;omega)|trace_state
def orI:List Int->Int
 |[]=>0
 |x :: l=>if x≠0 then x else orI l
abbrev ints (l:List Int):D:=Iv (fun x=>[.int .i64 x]) 1 l
theorem Kh:∀(l:List Int) (k:Nat),(∀i,i<k->l.getD i 0=0)->k<=l.length->orI l=orI (l.drop k)
 |l,0,_,_=>rfl
 |[],k+1,_,h=>absurd h (by simp)
 |x :: l,k+1,h,hk=>by
  have h0:x=0:=h 0 (by omega);rw[List.drop_succ_cons,<-Kh l k (fun i hi=>h (i+1) (by omega)) (by simpa using hk)];simp[orI,h0]
theorem P9 (l:List Int):FnS Tryz.prog 153 [AD (ints l)] [] (AI (orI l)) []:=by
 refine fb Tryz.func153 (by kernel_rfl) rfl Tryz.ntmps153 Tryz.results153 rfl rfl rfl rfl fun E hS=>?_
 refine B9 (t:=0) rfl fun hb=>?_
 repeat'(first|refine sC ?_|refine Ak rfl (by exact tt0) ?_|fail)
 refine AK (ι:=Nat) (fun k=>AS [(3,AI 0),(6,AD (ints l)),(7,AI l.length),(8,AI k)] []) (fun k=>k<=l.length/\∀i,i<k->l.getD i 0=0) (fun k=>l.length-k) 0 ⟨Ag1 _,fun i hi=>absurd hi (AgW _)⟩ ?_ ?_
 ·exact Ck ⟨rfl,rfl,rfl,rfl,trivial⟩ trivial rfl
 ·intro k hk
  repeat'(first|refine sC ?_|refine Ak rfl (by first|exact tt0|omega) ?_|(refine gI ?_;first|refine Au (gk rfl) rfl rfl rfl rfl rfl (by omega) rfl ?_)|(refine gD ?_;first|(refine Ay rfl ?_ ?_<;>intro h<;>have hq:=h<;>(try simp only[hqs] at hq)))|fail)
  ·refine AG Ab rfl ?_;rw[Kh l k hk.2 hk.1,List.drop_eq_getElem_cons (by omega),orI,AgZ]
   ·simp[Agi];rw[Agr (by omega)];rfl
   ·rw[Agi,Agr (by omega)] at hq;exact hq
  ·refine⟨k+1,⟨by omega,fun i hi=>?_⟩,by omega,Ck ⟨rfl,rfl,rfl,rfl,trivial⟩ trivial rfl⟩;by_cases hik:i<k
   ·exact hk.2 i hik
   ·have:i=k:=by omega
    subst this;exact hq
  ·refine AG Ab rfl ?_;rw[Kh l k hk.2 hk.1,List.drop_of_length_le (by omega)];rfl
structure TC where
 slot:Int
 offset:Int
 kind:Int
 send:Bool
 peer:Int
 Cb:Int
 deriving DecidableEq,Inhabited
def TC.enc (x:TC):List D:=[.int .i64 x.slot,.int .i64 x.offset,.int .i64 x.kind,.bool x.send,.int .i64 x.peer,.int .i64 x.Cb]
def TC.cs (x:TC):List C:=[.d (.int .i64 x.slot),.d (.int .i64 x.offset),.d (.int .i64 x.kind),.d (.bool x.send),.d (.int .i64 x.peer),.d (.int .i64 x.Cb)]
abbrev tcA (x:TC):AV:=.agg x.cs
abbrev tcs (l:List TC):D:=Iv TC.enc 6 l
def Ei (n:Int):Bool:=decide (0<=n/\n<32)
theorem Oa (n:Int):FnS Tryz.prog 105 [AI n] [] (AB (Ei n)) []:=by
 refine fb Tryz.func105 (by kernel_rfl) rfl Tryz.ntmps105 Tryz.results105 rfl rfl rfl rfl fun E hS=>?_
 repeat'(first|refine sB ?_|refine Ak rfl (by exact tt0) ?_|(refine Ax rfl ?_ ?_<;>intro h<;>have hq:=h<;>(try simp only[hqs] at hq))|fail)
 all_goals refine Aw Ab rfl ?_
 all_goals simp_all [Ei]<;>omega
def Wh (a b:TC):Int:=orI [Hf a.slot b.slot,Hf a.kind b.kind]
theorem O5 (a b:TC):FnS Tryz.prog 107 [tcA a,tcA b] [] (AI (Wh a b)) []:=by
 refine fb Tryz.func107 (by kernel_rfl) rfl Tryz.ntmps107 Tryz.results107 rfl rfl rfl rfl fun E hS=>?_
 repeat'(first|refine sB ?_|refine Ak rfl (by exact tt0) ?_|(refine gC ?_;first|refine AN (GS _ _) (gk rfl) rfl rfl rfl rfl rfl rfl ?_|refine Iy [15] (P9 [Hf a.slot b.slot,Hf a.kind b.kind]) (gk rfl) rfl (by(repeat'(first|exact .nil|refine .cons ?_ ?_|exact .of0 (.c (Gt (by decide) rfl rfl (by repeat'(first|exact tt0|refine⟨?_,?_⟩|rfl))))))<;>fail) rfl rfl rfl rfl rfl ?_)|refine Ap (by kernel_rfl) ?_|fail)
 all_goals exact AG Ab rfl rfl
def OR (c:TC) (self len:Int):Int:=
 if c.kind≠3/\c.kind≠1/\c.kind≠2 then 1
 else if(c.kind≠1/\c.Cb≠-1)\/(c.kind=3/\(c.peer≠-1\/c.send=true)) then 1
 else if(c.slot<0\/len<=c.slot)\/(c.offset<0\/16<=c.offset)\/(c.kind≠3/\(Ei c.peer=false\/c.peer=self))\/(c.kind=1/\c.Cb<0) then 2 else 0
set_option maxHeartbeats 2000000 in
theorem H7 (c:TC) (self len:Int):FnS Tryz.prog 106 [tcA c,AI self,AI len] [] (AI (OR c self len)) []:=by
 have h3:c.kind=3\/c.kind=1\/c.kind=2\/(c.kind≠3/\c.kind≠1/\c.kind≠2):=by omega
 obtain⟨slot,off,kind,send,peer,Cb⟩:=c;dsimp only at h3;refine fb Tryz.func106 (by kernel_rfl) rfl Tryz.ntmps106 Tryz.results106 rfl rfl rfl rfl fun E hS=>?_
 rcases h3 with rfl|rfl|rfl|⟨h,h',h''⟩
 rotate_left 3
 have a1:(!decide (kind=3))=true:=by simp[h]
 have a2:(!decide (kind=1))=true:=by simp[h']
 have a3:decide (kind≠2)=true:=by simp[h'']
 all_goals
  repeat'(first|refine sC ?_|refine Ak rfl (by exact tt0) ?_|(refine gC ?_;first|refine AN (Oa _) (gk rfl) rfl rfl rfl rfl rfl rfl ?_)|refine Az rfl (by assumption) ?_|(refine Ax rfl ?_ ?_<;>intro h<;>have hq:=h<;>(try simp only[hqs] at hq))|(refine gD ?_;first|refine Ai rfl ?_|refine Ah rfl ?_|refine At rfl (by assumption) ?_|(refine Ay rfl ?_ ?_<;>intro h<;>have hq:=h<;>(try simp only[hqs] at hq)))|fail)
  all_goals first
   |(refine AG Ab rfl ?_;unfold OR;simp_all;done)
   |(refine AG Ab rfl ?_;unfold OR;simp_all<;>omega)
   |(exfalso;omega)
   |trace_state
structure Tb where
 node:Int
 len:Int
 cells:List TC
 deriving Inhabited
def Tb.cs (t:Tb):List C:=[.d (.int .i64 t.node),.d (.int .i64 t.len),.d (tcs t.cells)]
abbrev tbA (t:Tb):AV:=.agg t.cs
def K6 (t:Tb) (k:Nat):Int:=
 if OR (t.cells.getD k default) t.node t.len≠0 then OR (t.cells.getD k default) t.node t.len
 else if 0<k/\0<=Wh (t.cells.getD (k-1) default) (t.cells.getD k default) then 5 else 0
def Cl (t:Tb):Int:=if Ei t.node=false\/t.len<1\/512<t.len then 2 else if 512<t.cells.length then 8 else Dl t.cells.length (K6 t)
theorem LZ {t:Tb} {k:Nat} {e:Int} (h1:¬(Ei t.node=false\/t.len<1\/512<t.len)) (h0:t.cells.length<=512) (h:k<=t.cells.length/\∀i,i<k->K6 t i=0) (hk:k<t.cells.length) (he:K6 t k=e) (hne:e≠0):Cl t=e:=by
 subst he;rw[Cl,AgY h1,AgY (by omega),Gr h.2 hk hne]
theorem QN {t:Tb} {k:Nat} (h1:¬(Ei t.node=false\/t.len<1\/512<t.len)) (h0:t.cells.length<=512) (h:k<=t.cells.length/\∀i,i<k->K6 t i=0) (hk:t.cells.length<=k):Cl t=0:=by
 rw[Cl,AgY h1,AgY (by omega),CI fun i hi=>h.2 i (by omega)]
theorem D4 (t:Tb):FnS Tryz.prog 62 [tbA t] [] (AI (Cl t)) []:=by
 refine fb Tryz.func62 (by kernel_rfl) rfl Tryz.ntmps62 Tryz.results62 rfl rfl rfl rfl fun E hS=>?_
 repeat'(first|refine sC ?_|refine Ak rfl (by exact tt0) ?_|(refine gC ?_;first|refine Aa (Oa _) (gk rfl) rfl rfl rfl (by rfl) rfl (by rfl) rfl ?_)|(refine Ax rfl ?_ ?_<;>intro h<;>have hq:=h<;>(try simp only[hqs] at hq))|(refine gD ?_;first|refine Ai rfl ?_|(refine Ay rfl ?_ ?_<;>intro h<;>have hq:=h<;>(try simp only[hqs] at hq)))|fail)
 all_goals first
  |(refine AG Ab rfl ?_;unfold Cl;simp_all;done)
  |(refine AG Ab rfl ?_;unfold Cl;simp_all;omega)
  |skip
 have h1:¬(Ei t.node=false\/t.len<1\/512<t.len):=by simp_all
 refine AK (ι:=Nat) (fun k=>AS [(1,.c (.ptr 1 0)),(25,AD (tcs t.cells)),(26,AI t.cells.length),(27,AI k)] [(1,.box t.cs)]) (fun k=>k<=t.cells.length/\∀i,i<k->K6 t i=0) (fun k=>t.cells.length-k) 0 ⟨Ag1 _,fun i hi=>absurd hi (AgW _)⟩ ?_ ?_
 ·exact Ck ⟨rfl,rfl,rfl,rfl,trivial⟩ ⟨rfl,trivial⟩ rfl
 ·intro k hk
  repeat'(first|refine sC ?_|refine Ak rfl (by first|exact tt0|omega) ?_|(refine gC ?_;first|refine Aa (H7 _ _ _) (gk rfl) rfl rfl rfl (by rfl) rfl (by rfl) rfl ?_|refine Aa (O5 _ _) (gk rfl) rfl rfl rfl (by rfl) rfl (by rfl) rfl ?_)|(refine gI ?_;first|refine Au (gk rfl) rfl rfl rfl rfl rfl (by omega) rfl ?_|refine Dz (gk rfl) rfl rfl rfl rfl rfl (by omega) rfl ?_)|(refine Ax rfl ?_ ?_<;>intro h<;>have hq:=h<;>(try simp only[hqs] at hq))|refine Ap (by kernel_rfl) ?_|(refine gD ?_;first|refine Ah rfl ?_|(refine Ay rfl ?_ ?_<;>intro h<;>have hq:=h<;>(try simp only[hqs] at hq)))|fail)
  all_goals first
   |(refine AG Ab rfl ?_
     first
     |exact QN h1 (by omega) hk (by omega)
     |(refine LZ h1 (by omega) hk (by omega) ?_ hq;rw[K6,AgZ hq];done)
     |(refine LZ h1 (by omega) hk (by omega) ?_ (by decide);rw[K6,AgY (by omega),AgZ (by omega)];done))
   |(refine⟨k+1,⟨by omega,fun i hi=>?_⟩,by omega,Ck ⟨rfl,rfl,rfl,rfl,trivial⟩ ⟨rfl,trivial⟩ rfl⟩
     by_cases hik:i<k
     ·exact hk.2 i hik
     ·have:i=k:=by omega
      subst this;rw[K6,AgY (by omega),AgY (by omega)])
   |trace_state
def Lg (a b:TC):Bool:=decide (a.slot<b.slot)||(decide (a.slot=b.slot)&&decide (a.kind<b.kind))
theorem XK (a b:TC):0<=Wh a b↔Lg a b=false:=by
 unfold Wh Lg orI orI orI Hf;by_cases h1:a.slot<b.slot
 ·simp[h1]
 ·by_cases h2:b.slot<a.slot
  ·have:¬a.slot=b.slot:=by omega
   simp[h1,h2,this]
  ·have e:a.slot=b.slot:=by omega
   by_cases h3:a.kind<b.kind
   ·simp[e,h3]
   ·by_cases h4:b.kind<a.kind
    ·simp[e,h3,h4]
    ·simp[e,h3,h4]

def AeY (n:Int):Bool:=decide (n<=40\/512<n/\n<=516)
theorem VU (n:Int):FnS Tryz.prog 58 [AI n] [] (AB (AeY n)) []:=by
 refine fb Tryz.func58 (by kernel_rfl) rfl Tryz.ntmps58 Tryz.results58 rfl rfl rfl rfl fun E hS=>?_
 repeat'(first|refine sB ?_|refine Ak rfl (by exact tt0) ?_|(refine Ax rfl ?_ ?_<;>intro h<;>have hq:=h<;>(try simp only[hqs] at hq))|fail)
 all_goals(refine Aw Ab rfl ?_;unfold AeY;simp_all)
 all_goals omega
def AfA (t:Tb):Bool:=AeY t.cells.length&&decide (t.len<=64\/512<t.len)
theorem Adp (t:Tb):FnS Tryz.prog 27 [tbA t] [] (AB (AfA t)) []:=by
 refine fb Tryz.func27 (by kernel_rfl) rfl Tryz.ntmps27 Tryz.results27 rfl rfl rfl rfl fun E hS=>?_
 repeat'(first|refine sB ?_|refine Ak rfl (by exact tt0) ?_|(refine gC ?_;first|refine Aa (VU _) (gk rfl) rfl rfl rfl (by rfl) rfl (by rfl) rfl ?_)|(refine Ax rfl ?_ ?_<;>intro h<;>have hq:=h<;>(try simp only[hqs] at hq))|fail)
 all_goals(refine Aw Ab rfl ?_;unfold AfA;simp_all)
 all_goals omega
theorem Cn {t:Tb} (h:Cl t=0):t.cells.length<=512/\1<=t.len/\t.len<=512/\Ei t.node=true:=by
 unfold Cl at h
 split at h
 ·cases h
 ·split at h
  ·cases h
  ·rename_i h1 h2;simp only[not_or] at h1;refine⟨by omega,by omega,by omega,by simpa using h1.1⟩
def QT (l:List TC) (t:Int):Nat:=bs (fun i=>decide (Hf (l.getD i default).slot t<0)) 0 l.length
def VQ (l:List TC) (t:Int):Bool:=decide (QT l t<l.length)&&decide (Hf (l.getD (QT l t) default).slot t=0)
abbrev MW:List DV->DV->Prop:=fun ds r=>∃(x:TC) (t:Int),ds=[.agg x.enc,.d (.int .i64 t)]/\r=.d (.int .i64 (Hf x.slot t))
theorem Mq (l:List TC) (t:Int) (hl:l.length<=1000000):FnS Tryz.prog 169 [AD (tcs l),AI t,.clo MW] [] (.tup [AI (QT l t),AB (VQ l t)]) []:=by
 refine fb Tryz.func169 (by kernel_rfl) rfl Tryz.ntmps169 Tryz.results169 rfl rfl rfl rfl fun E hS=>?_
 repeat'(first|refine sC ?_|refine Ak rfl (by exact tt0) ?_|fail)
 refine AK (ι:=Nat×Nat) (fun p=>AS [(0,AD (tcs l)),(1,AI t),(2,.clo MW),(8,AI l.length),(9,AI p.1),(10,AI p.2)] [])
  (fun p=>p.1<=p.2/\p.2<=l.length/\bs (fun i=>decide (Hf (l.getD i default).slot t<0)) p.1 p.2=QT l t) (fun p=>p.2-p.1) (0,l.length) ⟨Ag1 _,Ag0 _,rfl⟩ ?_ ?_
 ·exact Ck ⟨rfl,rfl,rfl,rfl,rfl,rfl,trivial⟩ trivial rfl
 ·rintro⟨i,j⟩ ⟨h1,h2,h3⟩;dsimp only at h1 h2 h3 ⊢
  repeat'(first|refine sC ?_|refine Ak rfl (by first|exact tt0|omega) ?_|(refine gC ?_;first|refine E2 (⟨_,_,rfl,rfl⟩) (gk rfl) rfl rfl rfl rfl ?_)|(refine gI ?_;first|refine Au (gk rfl) rfl rfl rfl rfl rfl (by omega) rfl ?_|refine DA (gk rfl) rfl rfl rfl rfl (by omega) rfl ?_)|(refine gV ?_;first|refine A4 (gk rfl) rfl ⟨_,rfl⟩ rfl (by first|exact wrap_i64 (by omega)|exact wrap_u64 (by omega)) rfl ?_)|(refine gB ?_;first|refine Nu (m:=1) (gk rfl) rfl rfl rfl (by decide) rfl ?_)|(refine Ax rfl ?_ ?_<;>intro h<;>have hq:=h<;>(try simp only[hqs] at hq))|(refine gD ?_;first|(refine Ay rfl ?_ ?_<;>intro h<;>have hq:=h<;>(try simp only[hqs] at hq)))|fail)
  ·have e:(((i:Int)+(j:Int))/2^1).toNat=(i+j)/2:=by omega
   rw[e] at hq;refine⟨((i+j)/2+1,j),⟨by dsimp only;omega,h2,?_⟩,by dsimp only;omega,Ck ⟨rfl,rfl,rfl,rfl,Yw ?_ rfl,rfl,trivial⟩ trivial rfl⟩
   ·rw[<-h3]
    conv=>rhs;rw[bs,AgZ (by omega)]
    rw[AgZ];exact Agj hq
   ·congr 1<;>omega
  ·have e:(((i:Int)+(j:Int))/2^1).toNat=(i+j)/2:=by omega
   rw[e] at hq;refine⟨(i,(i+j)/2),⟨by dsimp only;omega,by dsimp only;omega,?_⟩,by dsimp only;omega,Ck ⟨rfl,rfl,rfl,rfl,rfl,Yw ?_ rfl,trivial⟩ trivial rfl⟩
   ·rw[<-h3]
    conv=>rhs;rw[bs,AgZ (by omega)]
    rw[AgY];rw[Agl];exact Int.not_lt.2 hq
   ·congr 1<;>omega
  all_goals(have e0:QT l t=i:=by
             rw[<-h3,bs,AgY (by omega)])
  all_goals refine CA Ab rfl rfl (by rw[e0]) ?_
  all_goals simp_all [VQ]<;>omega
theorem Ym (c:TC) (n:Int):FnS Tryz.prog 170 [tcA c,AI n] [] (AI (Hf c.slot n)) []:=by
 refine fb Tryz.func170 (by kernel_rfl) rfl Tryz.ntmps170 Tryz.results170 rfl rfl rfl rfl fun E hS=>?_
 repeat'(first|refine sB ?_|refine Ak rfl (by exact tt0) ?_|(refine gC ?_;first|refine Aa (GS _ _) (gk rfl) rfl rfl rfl (by rfl) rfl (by rfl) rfl ?_)|fail)
 all_goals exact AG Ab rfl rfl
theorem Abo {σ:St} {L:List Nat}:AR Tryz.prog σ L (.fnc 170 []) (.clo MW):=
 .fnc .nil (enters_of Tryz.func170 (by kernel_rfl) rfl) (by rintro _ _ ⟨x,t,rfl,rfl⟩;exact⟨rfl,Ym x t⟩)
theorem Ja {n:Nat} {f:Nat->Int} (h:Dl n f=0):∀i,i<n->f i=0:=by
 intro i hi;unfold Dl at h;cases hf:(List.range n).find? (fun i=>f i != 0) with
 |none=>
  have:=List.find?_eq_none.1 hf i (AgQ.2 hi);simpa using this
 |some k=>
  rw[hf] at h;have:=List.find?_some hf;simp only[Option.elim] at h;rw[h] at this;simp at this
theorem Wm {t:Tb} (h:Cl t=0):∀i,i<t.cells.length->OR (t.cells.getD i default) t.node t.len=0/\(0<i->Lg (t.cells.getD (i-1) default) (t.cells.getD i default)=true):=by
 have hl:=Cn h;unfold Cl at h
 split at h
 ·cases h
 ·split at h
  ·cases h
  ·intro i hi;have:=Ja h i hi;unfold K6 at this
   split at this
   ·omega
   ·rename_i h1;refine⟨by omega,fun h0=>?_⟩
    split at this
    ·cases this
    ·rename_i h2;have h3:¬0<=Wh (t.cells.getD (i-1) default) (t.cells.getD i default):=fun hc=>h2 ⟨h0,hc⟩
     rw[XK] at h3;simpa using h3
theorem H2 {a b:TC}:Lg a b=true↔a.slot<b.slot\/(a.slot=b.slot/\a.kind<b.kind):=by
 simp[Lg]
theorem Qh {a b c:TC} (h:Lg a b=true) (k:Lg b c=true):Lg a c=true:=by
 rw[H2] at *;omega
def Srt (l:List TC):Prop:=∀i j,i<j->j<l.length->Lg (l.getD i default) (l.getD j default)=true
theorem Acx {l:List TC} (h:∀i,i<l.length->0<i->Lg (l.getD (i-1) default) (l.getD i default)=true):Srt l:=by
 intro i j hij
 induction j with
 |zero=>omega
 |succ j ih=>
  intro hj;have h1:=h (j+1) hj (by omega);rw[Nat.add_sub_cancel] at h1;rcases Ag2 i j with h2|h2
  ·exact Qh (ih h2 (by omega)) h1
  ·rw[show i=j by omega];exact h1
theorem LY {t:Tb} (h:Cl t=0):Srt t.cells:=Acx fun i hi h0=>(Wm h i hi).2 h0
theorem EP {a b:Int}:Hf a b<0↔a<b:=by
 unfold Hf;split<;>(try split)<;>omega
theorem KN {a b:Int}:Hf a b=0↔a=b:=by
 unfold Hf;split<;>(try split)<;>omega
theorem Yk {l:List TC} (h:Srt l) (s:Int):Fs l (fun c=>decide (c.slot=s))=if QT l s<l.length/\(l.getD (QT l s) default).slot=s then some (QT l s) else none:=by
 have hb:=Ws (f:=fun i=>decide (Hf (l.getD i default).slot s<0)) (n:=l.length) (fun a b hab hb hf=>by
  simp only[Agl,EP] at hf ⊢;have:=H2.1 (h a b hab hb);omega)
 change QT l s<=_/\(∀a,a<QT l s->_)/\∀a,QT l s<=a->_ at hb;obtain⟨h1,h2,h3⟩:=hb;simp only[Agl,Agm,EP] at h2 h3
 split
 ·rename_i hc;exact Ey (fun i hi=>Agk (by have:=h2 i hi;omega)) hc.1 (Agj hc.2)
 ·rename_i hc;refine DR fun i hi=>?_
  simp only[Agm];intro he;rcases Ag2 i (QT l s) with hlt|hge
  ·have:=h2 i hlt;omega
  ·refine hc ⟨by omega,?_⟩;have h5:=h3 (QT l s) (Ag0 _) (by omega);rcases Ag2 (QT l s) i with h6|h6
   ·have:=H2.1 (h _ _ h6 hi);omega
   ·rw[show QT l s=i by omega];exact he
def noC:TC:=⟨0,0,0,false,0,0⟩
def atM (t:Tb) (slot:Int):TC×Bool:=if Cl t≠0\/slot<0 then(noC,false) else match Fs t.cells (fun c=>decide (c.slot=slot % t.len)) with
 |some i=>(t.cells.getD i default,true)
 |none=>(noC,false)
set_option maxHeartbeats 1000000 in
theorem M9 (t:Tb) (slot:Int):FnS Tryz.prog 126 [tbA t,AI slot] [] (.tup [tcA (atM t slot).1,AB (atM t slot).2]) []:=by
 have hck:=D4 t;refine fb Tryz.func126 (by kernel_rfl) rfl Tryz.ntmps126 Tryz.results126 rfl rfl rfl rfl fun E hS=>?_
 by_cases hc:Cl t=0
 ·rw[hc] at hck;have hl:=Cn hc;by_cases hs:slot<0
  ·have e:atM t slot=(noC,false):=by rw[atM,AgZ (.inr hs)]
   rw[e]
   repeat'(first|refine sB ?_|refine Ak rfl (by first|exact tt0|omega) ?_|(refine gC ?_;first|refine Aa (hck) (gk rfl) rfl rfl rfl (by rfl) rfl (by rfl) rfl ?_)|(refine gD ?_;first|(refine Ay rfl ?_ ?_<;>intro h<;>have hq:=h<;>(try simp only[hqs] at hq)))|fail)
   all_goals first
    |(exfalso;omega)
    |exact AL Ab rfl rfl rfl rfl rfl rfl rfl
  ·have e:atM t slot=match Fs t.cells (fun c=>decide (c.slot=slot % t.len)) with
     |some i=>(t.cells.getD i default,true)
     |none=>(noC,false):=by rw[atM,AgY (by omega)]
   rw[Yk (LY hc)] at e
   repeat'(first|refine sB ?_|refine Ak rfl (by first|exact tt0|omega) ?_|(refine gC ?_;first|refine Aa (hck) (gk rfl) rfl rfl rfl (by rfl) rfl (by rfl) rfl ?_|refine AF [] (Mq t.cells _ (by omega)) (gk rfl) rfl (by(repeat'(first|exact .nil|refine .cons ?_ ?_|exact .of0 (.c .d)|exact(Abo)))<;>fail) (by rfl) rfl (by rfl) rfl (by rfl) rfl ?_)|(refine gI ?_;first|refine Au (gk rfl) rfl rfl rfl rfl rfl (by omega) rfl ?_)|(refine Ax rfl ?_ ?_<;>intro h<;>have hq:=h<;>(try simp only[hqs] at hq))|refine Ap (by kernel_rfl) ?_|(refine gD ?_;first|refine Ah rfl ?_|(refine Ay rfl ?_ ?_<;>intro h<;>have hq:=h<;>(try simp only[hqs] at hq)))|fail)
   all_goals first
    |(exfalso;omega)
    |skip
   ·rw[AgZ ⟨by omega,hq⟩] at e;rw[e];exact AL Ab rfl rfl rfl rfl rfl rfl rfl
   all_goals
    rw[AgY (by omega)] at e;rw[e];exact AL Ab rfl rfl rfl rfl rfl rfl rfl
 ·have e:atM t slot=(noC,false):=by rw[atM,AgZ (.inl hc)]
  rw[e]
  repeat'(first|refine sB ?_|refine Ak rfl (by first|exact tt0|omega) ?_|(refine gC ?_;first|refine Aa (hck) (gk rfl) rfl rfl rfl (by rfl) rfl (by rfl) rfl ?_)|(refine Ax rfl ?_ ?_<;>intro h<;>have hq:=h<;>(try simp only[hqs] at hq))|(refine gD ?_;first|refine Ai rfl ?_|(refine Ay rfl ?_ ?_<;>intro h<;>have hq:=h<;>(try simp only[hqs] at hq)))|fail)
  all_goals first
   |(exfalso;omega)
   |exact AL Ab rfl rfl rfl rfl rfl rfl rfl
end Go.Proofs.T
end
section
namespace Go.Proofs
open Go Go.Sx Go.Proofs.T Go.Proofs.Q
set_option maxRecDepth 4000
attribute [local irreducible] VR VC thenQ blockQ retL
structure Hd where
 Cb:Int
 frame:Int
 til:Int
 data:ByteArray
 AT:List Int
 deriving DecidableEq,Inhabited
def Hd.enc (x:Hd):List D:=[.int .i64 x.Cb,.int .i64 x.frame,.int .i64 x.til,.str x.data,ints x.AT]
def Hd.cs (x:Hd):List C:=[.d (.int .i64 x.Cb),.d (.int .i64 x.frame),.d (.int .i64 x.til),.d (.str x.data),.d (ints x.AT)]
abbrev hdA (x:Hd):AV:=.agg x.cs
abbrev hds (l:List Hd):D:=Iv Hd.enc 5 l
structure Sn where
 node:Int
 seq:Int
 deriving DecidableEq,Inhabited
def Sn.enc (x:Sn):List D:=[.int .i64 x.node,.int .i64 x.seq]
def Sn.cs (x:Sn):List C:=[.d (.int .i64 x.node),.d (.int .i64 x.seq)]
abbrev snA (x:Sn):AV:=.agg x.cs
abbrev sns (l:List Sn):D:=Iv Sn.enc 2 l
theorem AeF {x y:Sn} (h:[SV.int IntKind.i64 x.seq,SV.int IntKind.i64 x.node].reverse=[SV.int IntKind.i64 y.seq,SV.int IntKind.i64 y.node].reverse):x=y:=by
 have h:=List.reverse_inj.1 h;cases x;cases y;simp only[List.cons.injEq,SV.int.injEq,SV.bool.injEq,SV.str.injEq,true_and,and_true] at h;obtain⟨rfl,rfl⟩:=h
 rfl
theorem AeE {x y:Sn} (h:x=y):[SV.int IntKind.i64 x.seq,SV.int IntKind.i64 x.node].reverse=[SV.int IntKind.i64 y.seq,SV.int IntKind.i64 y.node].reverse:=by rw[h]
instance:It Sn.enc:=⟨fun _=>rfl⟩
structure Fr where
 kind:Int
 source:Int
 target:Int
 list:Int
 seq:Int
 Cb:Int
 number:Int
 err:Int
 slot:Int
 rank:Int
 epoch:Int
 data:ByteArray
 deriving DecidableEq,Inhabited
def Fr.enc (x:Fr):List D:=[.int .i64 x.kind,.int .i64 x.source,.int .i64 x.target,.int .i64 x.list,.int .i64 x.seq,.int .i64 x.Cb,.int .i64 x.number,.int .i64 x.err,.int .i64 x.slot,.int .i64 x.rank,.int .i64 x.epoch,.str x.data]
def Fr.cs (x:Fr):List C:=[.d (.int .i64 x.kind),.d (.int .i64 x.source),.d (.int .i64 x.target),.d (.int .i64 x.list),.d (.int .i64 x.seq),.d (.int .i64 x.Cb),.d (.int .i64 x.number),.d (.int .i64 x.err),.d (.int .i64 x.slot),.d (.int .i64 x.rank),.d (.int .i64 x.epoch),.d (.str x.data)]
abbrev frA (x:Fr):AV:=.agg x.cs
abbrev frs (l:List Fr):D:=Iv Fr.enc 12 l
theorem AeW {x y:Fr} (h:[SV.str x.data,SV.int IntKind.i64 x.epoch,SV.int IntKind.i64 x.rank,SV.int IntKind.i64 x.slot,SV.int IntKind.i64 x.err,SV.int IntKind.i64 x.number,SV.int IntKind.i64 x.Cb,SV.int IntKind.i64 x.seq,SV.int IntKind.i64 x.list,SV.int IntKind.i64 x.target,SV.int IntKind.i64 x.source,SV.int IntKind.i64 x.kind].reverse=[SV.str y.data,SV.int IntKind.i64 y.epoch,SV.int IntKind.i64 y.rank,SV.int IntKind.i64 y.slot,SV.int IntKind.i64 y.err,SV.int IntKind.i64 y.number,SV.int IntKind.i64 y.Cb,SV.int IntKind.i64 y.seq,SV.int IntKind.i64 y.list,SV.int IntKind.i64 y.target,SV.int IntKind.i64 y.source,SV.int IntKind.i64 y.kind].reverse):x=y:=by
 have h:=List.reverse_inj.1 h;cases x;cases y;simp only[List.cons.injEq,SV.int.injEq,SV.bool.injEq,SV.str.injEq,true_and,and_true] at h;obtain⟨rfl,rfl,rfl,rfl,rfl,rfl,rfl,rfl,rfl,rfl,rfl,rfl⟩:=h
 rfl
theorem AeV {x y:Fr} (h:x=y):[SV.str x.data,SV.int IntKind.i64 x.epoch,SV.int IntKind.i64 x.rank,SV.int IntKind.i64 x.slot,SV.int IntKind.i64 x.err,SV.int IntKind.i64 x.number,SV.int IntKind.i64 x.Cb,SV.int IntKind.i64 x.seq,SV.int IntKind.i64 x.list,SV.int IntKind.i64 x.target,SV.int IntKind.i64 x.source,SV.int IntKind.i64 x.kind].reverse=[SV.str y.data,SV.int IntKind.i64 y.epoch,SV.int IntKind.i64 y.rank,SV.int IntKind.i64 y.slot,SV.int IntKind.i64 y.err,SV.int IntKind.i64 y.number,SV.int IntKind.i64 y.Cb,SV.int IntKind.i64 y.seq,SV.int IntKind.i64 y.list,SV.int IntKind.i64 y.target,SV.int IntKind.i64 y.source,SV.int IntKind.i64 y.kind].reverse:=by rw[h]
instance:It Fr.enc:=⟨fun _=>rfl⟩
structure Ac where
 kind:Int
 offset:Int
 BF:Int
 source:Int
 target:Int
 list:Int
 seq:Int
 Cb:Int
 number:Int
 err:Int
 slot:Int
 rank:Int
 epoch:Int
 data:ByteArray
 deriving DecidableEq,Inhabited
def Ac.enc (x:Ac):List D:=[.int .i64 x.kind,.int .i64 x.offset,.int .i64 x.BF,.int .i64 x.source,.int .i64 x.target,.int .i64 x.list,.int .i64 x.seq,.int .i64 x.Cb,.int .i64 x.number,.int .i64 x.err,.int .i64 x.slot,.int .i64 x.rank,.int .i64 x.epoch,.str x.data]
def Ac.cs (x:Ac):List C:=[.d (.int .i64 x.kind),.d (.int .i64 x.offset),.d (.int .i64 x.BF),.d (.int .i64 x.source),.d (.int .i64 x.target),.d (.int .i64 x.list),.d (.int .i64 x.seq),.d (.int .i64 x.Cb),.d (.int .i64 x.number),.d (.int .i64 x.err),.d (.int .i64 x.slot),.d (.int .i64 x.rank),.d (.int .i64 x.epoch),.d (.str x.data)]
abbrev acA (x:Ac):AV:=.agg x.cs
abbrev acs (l:List Ac):D:=Iv Ac.enc 14 l
instance:It Ac.enc:=⟨fun _=>rfl⟩
structure Up where
 some:Bool
 new:Bool
 BF:Int
 source:Int
 target:Int
 list:Int
 seq:Int
 Cb:Int
 number:Int
 err:Int
 slot:Int
 rank:Int
 epoch:Int
 data:ByteArray
 deriving DecidableEq,Inhabited
def Up.enc (x:Up):List D:=[.bool x.some,.bool x.new,.int .i64 x.BF,.int .i64 x.source,.int .i64 x.target,.int .i64 x.list,.int .i64 x.seq,.int .i64 x.Cb,.int .i64 x.number,.int .i64 x.err,.int .i64 x.slot,.int .i64 x.rank,.int .i64 x.epoch,.str x.data]
def Up.cs (x:Up):List C:=[.d (.bool x.some),.d (.bool x.new),.d (.int .i64 x.BF),.d (.int .i64 x.source),.d (.int .i64 x.target),.d (.int .i64 x.list),.d (.int .i64 x.seq),.d (.int .i64 x.Cb),.d (.int .i64 x.number),.d (.int .i64 x.err),.d (.int .i64 x.slot),.d (.int .i64 x.rank),.d (.int .i64 x.epoch),.d (.str x.data)]
abbrev upA (x:Up):AV:=.agg x.cs
abbrev ups (l:List Up):D:=Iv Up.enc 14 l
instance:It Up.enc:=⟨fun _=>rfl⟩
structure Rs where
 AT:Bool
 heard:Bool
 BF:Int
 source:Int
 target:Int
 list:Int
 seq:Int
 Cb:Int
 number:Int
 err:Int
 slot:Int
 rank:Int
 epoch:Int
 data:ByteArray
 error:Int
 deriving DecidableEq,Inhabited
def Rs.enc (x:Rs):List D:=[.bool x.AT,.bool x.heard,.int .i64 x.BF,.int .i64 x.source,.int .i64 x.target,.int .i64 x.list,.int .i64 x.seq,.int .i64 x.Cb,.int .i64 x.number,.int .i64 x.err,.int .i64 x.slot,.int .i64 x.rank,.int .i64 x.epoch,.str x.data,.int .i64 x.error]
def Rs.cs (x:Rs):List C:=[.d (.bool x.AT),.d (.bool x.heard),.d (.int .i64 x.BF),.d (.int .i64 x.source),.d (.int .i64 x.target),.d (.int .i64 x.list),.d (.int .i64 x.seq),.d (.int .i64 x.Cb),.d (.int .i64 x.number),.d (.int .i64 x.err),.d (.int .i64 x.slot),.d (.int .i64 x.rank),.d (.int .i64 x.epoch),.d (.str x.data),.d (.int .i64 x.error)]
abbrev rsA (x:Rs):AV:=.agg x.cs
abbrev rss (l:List Rs):D:=Iv Rs.enc 15 l
instance:It Rs.enc:=⟨fun _=>rfl⟩
structure Sta where
 tb:Tb
 qu:Qu
 held:List Hd
 seen:List Sn
 list:Int
 seq:Int
 Bl:Int
 tries:Int
 back:Int
 wait:Int
 CY:Int
 deriving Inhabited
def Sta.cs (s:Sta):List C:=[.d (.int .i64 s.tb.node),.d (.int .i64 s.tb.len),.d (tcs s.tb.cells),.d (.int .i64 s.qu.Bk),.d (pks s.qu.Af),.d (hds s.held),.d (sns s.seen),
 .d (.int .i64 s.list),.d (.int .i64 s.seq),.d (.int .i64 s.Bl),.d (.int .i64 s.tries),.d (.int .i64 s.back),.d (.int .i64 s.wait),.d (.int .i64 s.CY)]
def Sta.enc (s:Sta):List D:=[.int .i64 s.tb.node,.int .i64 s.tb.len,tcs s.tb.cells,.int .i64 s.qu.Bk,pks s.qu.Af,hds s.held,sns s.seen,
 .int .i64 s.list,.int .i64 s.seq,.int .i64 s.Bl,.int .i64 s.tries,.int .i64 s.back,.int .i64 s.wait,.int .i64 s.CY]
abbrev stA (s:Sta):AV:=.agg s.cs
theorem BD (n m:Int):FnS Tryz.prog 63 [AI n,AI m] [] (AB (decide (0<=n/\n<=m))) []:=by
 refine fb Tryz.func63 (by kernel_rfl) rfl Tryz.ntmps63 Tryz.results63 rfl rfl rfl rfl fun E hS=>?_
 repeat'(first|refine sB ?_|refine Ak rfl (by exact tt0) ?_|(refine Ax rfl ?_ ?_<;>intro h<;>have hq:=h<;>(try simp only[hqs] at hq))|fail)
 ·refine Aw Ab rfl ?_;exact decide_eq_decide.2 (by omega)
 ·refine Aw Ab rfl ?_;exact Agk (by omega)
def AfD (l:List Int) (i:Nat):Bool:=decide (l.getD i default<0\/31<l.getD i default\/(0<i/\l.getD i default<=l.getD (i-1) default))
def EH (l:List Int):Bool:=!((List.range l.length).any (AfD l))
theorem PZ (l:List Int):FnS Tryz.prog 213 [AD (ints l)] [] (AB (EH l)) []:=by
 refine fb Tryz.func213 (by kernel_rfl) rfl Tryz.ntmps213 Tryz.results213 rfl rfl rfl rfl fun E hS=>?_
 refine B9 (t:=0) rfl fun hb=>?_
 repeat'(first|refine sC ?_|refine Ak rfl (by exact tt0) ?_|fail)
 refine AK (ι:=Nat) (fun k=>AS [(0,AD (ints l)),(5,AD (ints l)),(6,AI l.length),(7,AI k)] []) (fun k=>k<=l.length/\∀i,i<k->(AfD l) i=false) (fun k=>l.length-k) 0 ⟨Ag1 _,fun i hi=>absurd hi (AgW _)⟩ ?_ ?_
 ·refine lg ?_ ?_ rfl (by rfl)
  all_goals repeat'(first|exact tt0|refine⟨⟨_,rfl,?_⟩,?_⟩|exact .c .d|fail)
 ·intro k hk
  repeat'(first|refine sC ?_|refine Ak rfl (by first|exact tt0|omega) ?_|(refine gC ?_;first|refine Aa (BD _ _) (gk rfl) rfl rfl rfl (by rfl) rfl (by rfl) rfl ?_)|(refine gI ?_;first|refine Au (gk rfl) rfl rfl rfl rfl rfl (by omega) rfl ?_|refine Dz (gk rfl) rfl rfl rfl rfl rfl (by omega) rfl ?_)|(refine Ax rfl ?_ ?_<;>intro h<;>have hq:=h<;>(try simp only[hqs] at hq))|(refine gD ?_;first|refine Ai rfl ?_|refine Ah rfl ?_|(refine Ay rfl ?_ ?_<;>intro h<;>have hq:=h<;>(try simp only[hqs] at hq)))|fail)
  all_goals first
   |(refine Aw Ab rfl ?_
     by_cases hlt:k<l.length
     ·first
      |(exfalso;omega)
      |(rw[EH,Nc (k:=k) hlt ?_]
        ·rfl
        ·refine Agj ?_
         first
         |omega
         |(omega))
     ·first
      |(exfalso;omega)
      |(have hk':k=l.length:=by omega
        subst hk';rw[EH,ES hk.2]
        rfl))
   |(refine⟨k+1,⟨by omega,fun i hi=>?_⟩,by omega,?_⟩
     ·by_cases hik:i<k
      ·exact hk.2 i hik
      ·have:i=k:=by omega
       subst this;refine Agk ?_
       first
       |omega
       |(omega)
     ·refine lg ?_ ?_ rfl (by rfl)
      all_goals repeat'(first|exact tt0|refine⟨⟨_,rfl,?_⟩,?_⟩|exact .c .d|fail)
     )
   |trace_state
def FJ (h:Hd):Bool:=decide (0<=h.Cb/\h.Cb<=255/\0<=h.frame/\h.frame<=65535/\0<=h.til/\h.til<=109951162)&&EH h.AT
theorem P3 (h:Hd):FnS Tryz.prog 159 [hdA h] [] (AB (FJ h)) []:=by
 refine fb Tryz.func159 (by kernel_rfl) rfl Tryz.ntmps159 Tryz.results159 rfl rfl rfl rfl fun E hS=>?_
 repeat'(first|refine sB ?_|refine Ak rfl (by exact tt0) ?_|(refine gC ?_;first|refine Aa (BD _ _) (gk rfl) rfl rfl rfl (by rfl) rfl (by rfl) rfl ?_|refine Aa (PZ _) (gk rfl) rfl rfl rfl (by rfl) rfl (by rfl) rfl ?_)|(refine Ax rfl ?_ ?_<;>intro h<;>have hq:=h<;>(try simp only[hqs] at hq))|fail)
 all_goals(refine Aw Ab rfl ?_;unfold FJ)
 ·rw[Agj (by omega)];rfl
 all_goals(rw[Agk (by omega)];rfl)
def AdG (l:List Hd) (i:Nat):Bool:=decide (FJ (l.getD i default)=false\/100<(l.getD i default).data.size\/(0<i/\(l.getD i default).Cb<=(l.getD (i-1) default).Cb))
def Gn (l:List Hd):Bool:=!((List.range l.length).any (AdG l))&&decide ((l.length:Int)<=16)
theorem Kv (l:List Hd):FnS Tryz.prog 113 [AD (hds l)] [] (AB (Gn l)) []:=by
 refine fb Tryz.func113 (by kernel_rfl) rfl Tryz.ntmps113 Tryz.results113 rfl rfl rfl rfl fun E hS=>?_
 refine B9 (t:=0) rfl fun hb=>?_
 repeat'(first|refine sC ?_|refine Ak rfl (by exact tt0) ?_|fail)
 refine AK (ι:=Nat) (fun k=>AS [(0,AD (hds l)),(5,AD (hds l)),(6,AI l.length),(7,AI k)] []) (fun k=>k<=l.length/\∀i,i<k->(AdG l) i=false) (fun k=>l.length-k) 0 ⟨Ag1 _,fun i hi=>absurd hi (AgW _)⟩ ?_ ?_
 ·refine lg ?_ ?_ rfl (by rfl)
  all_goals repeat'(first|exact tt0|refine⟨⟨_,rfl,?_⟩,?_⟩|exact .c .d|fail)
 ·intro k hk
  repeat'(first|refine sC ?_|refine Ak rfl (by first|exact tt0|omega) ?_|(refine gC ?_;first|refine Aa (P3 _) (gk rfl) rfl rfl rfl (by rfl) rfl (by rfl) rfl ?_)|(refine gI ?_;first|refine Au (gk rfl) rfl rfl rfl rfl rfl (by omega) rfl ?_|refine Dz (gk rfl) rfl rfl rfl rfl rfl (by omega) rfl ?_)|(refine Ax rfl ?_ ?_<;>intro h<;>have hq:=h<;>(try simp only[hqs] at hq))|refine Ap (by kernel_rfl) ?_|(refine gD ?_;first|refine Ai rfl ?_|refine Ah rfl ?_|(refine Ay rfl ?_ ?_<;>intro h<;>have hq:=h<;>(try simp only[hqs] at hq)))|fail)
  all_goals first
   |(refine Aw Ab rfl ?_
     by_cases hlt:k<l.length
     ·first
      |(exfalso;omega)
      |(rw[Gn,Nc (k:=k) hlt ?_]
        ·rfl
        ·refine Agj ?_
         first
         |omega
         |(first|(refine .inl ?_;simp_all;done)|(refine .inr ?_;omega)|(simp_all;done)|(simp_all;omega)))
     ·first
      |(exfalso;omega)
      |(have hk':k=l.length:=by omega
        subst hk';rw[Gn,ES hk.2]
        rfl))
   |(refine⟨k+1,⟨by omega,fun i hi=>?_⟩,by omega,?_⟩
     ·by_cases hik:i<k
      ·exact hk.2 i hik
      ·have:i=k:=by omega
       subst this;refine Agk ?_
       first
       |omega
       |(first|(refine .inl ?_;simp_all;done)|(refine .inr ?_;omega)|(simp_all;done)|(simp_all;omega))
     ·refine lg ?_ ?_ rfl (by rfl)
      all_goals repeat'(first|exact tt0|refine⟨⟨_,rfl,?_⟩,?_⟩|exact .c .d|fail)
     )
   |trace_state
def AdF (l:List Sn) (i:Nat):Bool:=decide (¬(0<=(l.getD i default).node/\(l.getD i default).node<=31)\/¬(0<=(l.getD i default).seq/\(l.getD i default).seq<=255)\/(0<i/\(l.getD i default).node<=(l.getD (i-1) default).node))
def Hp (l:List Sn):Bool:=!((List.range l.length).any (AdF l))
theorem J3 (l:List Sn):FnS Tryz.prog 114 [AD (sns l)] [] (AB (Hp l)) []:=by
 refine fb Tryz.func114 (by kernel_rfl) rfl Tryz.ntmps114 Tryz.results114 rfl rfl rfl rfl fun E hS=>?_
 refine B9 (t:=0) rfl fun hb=>?_
 repeat'(first|refine sC ?_|refine Ak rfl (by exact tt0) ?_|fail)
 refine AK (ι:=Nat) (fun k=>AS [(0,AD (sns l)),(5,AD (sns l)),(6,AI l.length),(7,AI k)] []) (fun k=>k<=l.length/\∀i,i<k->(AdF l) i=false) (fun k=>l.length-k) 0 ⟨Ag1 _,fun i hi=>absurd hi (AgW _)⟩ ?_ ?_
 ·refine lg ?_ ?_ rfl (by rfl)
  all_goals repeat'(first|exact tt0|refine⟨⟨_,rfl,?_⟩,?_⟩|exact .c .d|fail)
 ·intro k hk
  repeat'(first|refine sC ?_|refine Ak rfl (by first|exact tt0|omega) ?_|(refine gC ?_;first|refine Aa (BD _ _) (gk rfl) rfl rfl rfl (by rfl) rfl (by rfl) rfl ?_)|(refine gI ?_;first|refine Au (gk rfl) rfl rfl rfl rfl rfl (by omega) rfl ?_|refine Dz (gk rfl) rfl rfl rfl rfl rfl (by omega) rfl ?_)|(refine Ax rfl ?_ ?_<;>intro h<;>have hq:=h<;>(try simp only[hqs] at hq))|refine Ap (by kernel_rfl) ?_|(refine gD ?_;first|refine Ai rfl ?_|refine Ah rfl ?_|(refine Ay rfl ?_ ?_<;>intro h<;>have hq:=h<;>(try simp only[hqs] at hq)))|fail)
  all_goals first
   |(refine Aw Ab rfl ?_
     by_cases hlt:k<l.length
     ·first
      |(exfalso;omega)
      |(rw[Hp,Nc (k:=k) hlt ?_]
        ·rfl
        ·refine Agj ?_
         first
         |omega
         |(omega))
     ·first
      |(exfalso;omega)
      |(have hk':k=l.length:=by omega
        subst hk';rw[Hp,ES hk.2]
        rfl))
   |(refine⟨k+1,⟨by omega,fun i hi=>?_⟩,by omega,?_⟩
     ·by_cases hik:i<k
      ·exact hk.2 i hik
      ·have:i=k:=by omega
       subst this;refine Agk ?_
       first
       |omega
       |(omega)
     ·refine lg ?_ ?_ rfl (by rfl)
      all_goals repeat'(first|exact tt0|refine⟨⟨_,rfl,?_⟩,?_⟩|exact .c .d|fail)
     )
   |trace_state
theorem VH (x:Pk) (t:Int):FnS Tryz.prog 156 [pkA x,.ep (fun _=>.int .i64 t) 1] [] (AB (decide (x.id=t))) []:=by
 refine fb Tryz.func156 (by kernel_rfl) rfl Tryz.ntmps156 Tryz.results156 rfl rfl rfl rfl fun E hS=>?_
 repeat'(first|refine sB ?_|refine Ak rfl (by exact tt0) ?_|fail)
 all_goals exact Aw Ab rfl rfl
theorem XT {σ:St} {t:Int} {n1:Nat} {L:List Nat} (hL:n1∈L) (h1:σ (.b n1)=some (.k (.box [.d (.int .i64 t)]))):AR Tryz.prog σ L (.fnc 156 [.ptr n1 0]) (.clo (B2 fun x=>decide (x.id=t))):=
 .fnc (eps:=[.ep (fun _=>.int .i64 t) 1]) (.cons (.ptr hL h1 (fun j hj=>by
  have:j=0:=by omega
  subst this;rfl)) .nil) (enters_of Tryz.func156 (by kernel_rfl) rfl)
  (by rintro _ _ ⟨x,rfl,rfl⟩;exact⟨rfl,VH x t⟩)
def hasB (l:List Pk) (id:Int):Bool:=l.any fun x=>decide (x.id=id)
theorem MS (q:Qu) (id:Int):FnS Tryz.prog 111 [quA q,AI id] [] (AB (hasB q.Af id)) []:=by
 refine fb Tryz.func111 (by kernel_rfl) rfl Tryz.ntmps111 Tryz.results111 rfl rfl rfl rfl fun E hS=>?_
 repeat'(first|refine sB ?_|refine Ak rfl (by exact tt0) ?_|(refine gC ?_;first|refine AF [3] (Jc q.Af (fun x=>decide (x.id=id))) (gk rfl) rfl (by(repeat'(first|exact .nil|refine .cons ?_ ?_|exact .of0 (.c .d)|exact(XT (by simp) rfl)))<;>fail) (by rfl) rfl (by rfl) rfl (by rfl) rfl ?_)|fail)
 all_goals exact Aw Ab rfl rfl
def WT (node:Int) (x:Pk):Bool:=decide (x.to=node\/100<x.data.size)
theorem MD (x:Pk) (s:Sta):FnS Tryz.prog 158 [pkA x,.ep (fun j=>s.enc.getD j .Db) 14] [] (AB (WT s.tb.node x)) []:=by
 refine fb Tryz.func158 (by kernel_rfl) rfl Tryz.ntmps158 Tryz.results158 rfl rfl rfl rfl fun E hS=>?_
 repeat'(first|refine sB ?_|refine Ak rfl (by exact tt0) ?_|(refine Ax rfl ?_ ?_<;>intro h<;>have hq:=h<;>(try simp only[hqs] at hq))|fail)
 all_goals(refine Aw Ab rfl ?_;unfold WT)
 ·exact Agj (Or.inl (by assumption))
 ·exact decide_eq_decide.2 (by omega)
theorem N4 {σ:St} {s:Sta} {n1:Nat} {L:List Nat} (hL:n1∈L) (h1:σ (.b n1)=some (.k (.box s.cs))):AR Tryz.prog σ L (.fnc 158 [.ptr n1 0]) (.clo (B2 (WT s.tb.node))):=
 .fnc (eps:=[.ep (fun j=>s.enc.getD j .Db) 14]) (.cons (.ptr hL h1 (fun j hj=>by
  have:j=0\/j=1\/j=2\/j=3\/j=4\/j=5\/j=6\/j=7\/j=8\/j=9\/j=10\/j=11\/j=12\/j=13:=by omega
  rcases this with rfl|rfl|rfl|rfl|rfl|rfl|rfl|rfl|rfl|rfl|rfl|rfl|rfl|rfl<;>rfl)) .nil) (enters_of Tryz.func158 (by kernel_rfl) rfl)
  (by rintro _ _ ⟨x,rfl,rfl⟩;exact⟨rfl,MD x s⟩)
def C4 (s:Sta):Bool:=decide (Br s.qu=0)&&!(s.qu.Af.any (WT s.tb.node))
theorem Gk (s:Sta):FnS Tryz.prog 112 [stA s] [] (AB (C4 s)) []:=by
 refine fb Tryz.func112 (by kernel_rfl) rfl Tryz.ntmps112 Tryz.results112 rfl rfl rfl rfl fun E hS=>?_
 repeat'(first|refine sB ?_|refine Ak rfl (by exact tt0) ?_|(refine gC ?_;first|refine Aa (ER _) (gk rfl) rfl rfl rfl (by rfl) rfl (by rfl) rfl ?_|refine AF [1] (Jc s.qu.Af (WT s.tb.node)) (gk rfl) rfl (by(repeat'(first|exact .nil|refine .cons ?_ ?_|exact .of0 (.c .d)|exact(N4 (by simp) rfl)))<;>fail) (by rfl) rfl (by rfl) rfl (by rfl) rfl ?_)|(refine Ax rfl ?_ ?_<;>intro h<;>have hq:=h<;>(try simp only[hqs] at hq))|fail)
 all_goals(refine Aw Ab rfl ?_;unfold C4)
 ·rw[Agj (by assumption)];rfl
 ·rw[Agk (by assumption)];rfl
def Iz (s:Sta):Bool:=decide ((s.Bl=-1/\s.tries=0)\/(0<=s.Bl/\hasB s.qu.Af s.Bl=true/\1<=s.tries/\s.tries<4))
def S4 (s:Sta):Bool:=decide (0<=s.list/\s.list<=255/\0<=s.seq/\s.seq<=255/\0<=s.back/\s.back<=5/\0<=s.wait/\s.wait<=2^s.back.toNat-1/\0<=s.CY/\s.CY<=2147483647)
def okS (s:Sta):Bool:=decide (Cl s.tb=0)&&C4 s&&Gn s.held&&Hp s.seen&&Iz s&&S4 s
def AQ (s:Sta):Int:=if okS s=true then 0 else 1
theorem CC {s:Sta} (h:¬Cl s.tb=0\/C4 s=false\/Gn s.held=false\/Hp s.seen=false\/Iz s=false\/S4 s=false):AQ s=1:=by
 unfold AQ okS;rcases h with h|h|h|h|h|h<;>simp[h]
theorem Cw {s:Sta} (h1:Cl s.tb=0) (h2:C4 s=true) (h3:Gn s.held=true) (h4:Hp s.seen=true) (h5:Iz s=true) (h6:S4 s=true):AQ s=0:=by
 unfold AQ okS;simp[h1,h2,h3,h4,h5,h6]
theorem Ad3 (b:Int):b<0\/5<b\/(1<=(2:Int)^b.toNat/\(2:Int)^b.toNat<=32):=by
 by_cases h1:b<0
 ·exact .inl h1
 by_cases h2:5<b
 ·exact .inr (.inl h2)
 refine .inr (.inr ?_);have:b=0\/b=1\/b=2\/b=3\/b=4\/b=5:=by omega
 rcases this with rfl|rfl|rfl|rfl|rfl|rfl<;>decide
set_option maxHeartbeats 2000000 in
theorem Dv (s:Sta):FnS Tryz.prog 68 [stA s] [] (AI (AQ s)) []:=by
 have hpow:s.back<0\/5<s.back\/(1<=(2:Int)^s.back.toNat/\(2:Int)^s.back.toNat<=32):=Ad3 s.back;refine fb Tryz.func68 (by kernel_rfl) rfl Tryz.ntmps68 Tryz.results68 rfl rfl rfl rfl fun E hS=>?_
 cases htr:Iz s with
 |false=>
  have ht:=AgJ htr
  repeat'(first|refine sR ?_|refine Ak rfl (by exact tt0) ?_|(refine gC ?_;first|refine Aa (BD _ _) (gk rfl) rfl rfl rfl (by rfl) rfl (by rfl) rfl ?_|refine Aa (MS s.qu _) (gk rfl) rfl rfl rfl (by rfl) rfl (by rfl) rfl ?_|refine Aa (D4 s.tb) (gk rfl) rfl rfl rfl (by rfl) rfl (by rfl) rfl ?_|refine Aa (Gk s) (gk rfl) rfl rfl rfl (by rfl) rfl (by rfl) rfl ?_|refine Aa (Kv _) (gk rfl) rfl rfl rfl (by rfl) rfl (by rfl) rfl ?_|refine Aa (J3 _) (gk rfl) rfl rfl rfl (by rfl) rfl (by rfl) rfl ?_)|(refine Ax rfl ?_ ?_<;>intro h<;>have hq:=h<;>(try simp only[hqs] at hq))|refine sq 4 rfl ?_|(refine gD ?_;first|refine Ai rfl ?_|(refine Ay rfl ?_ ?_<;>intro h<;>have hq:=h<;>(try simp only[hqs] at hq)))|fail)
  all_goals first
   |(refine AG Ab rfl ?_
     exact CC (.inr (.inr (.inr (.inr (.inl htr))))))
   |(exfalso;simp_all;done)
   |(exfalso;simp_all;omega)
 |true=>
  have ht:=AgI htr;rcases ht with⟨h1,h2⟩|⟨h1,h2,h3,h4⟩
  ·have d1:decide (s.Bl=-1)=true:=Agj h1;have d2:decide (s.tries=0)=true:=Agj h2
   repeat'(first|refine sB ?_|refine Ak rfl (by first|exact tt0|omega) ?_|(refine gC ?_;first|refine Aa (BD _ _) (gk rfl) rfl rfl rfl (by rfl) rfl (by rfl) rfl ?_|refine Aa (D4 s.tb) (gk rfl) rfl rfl rfl (by rfl) rfl (by rfl) rfl ?_|refine Aa (Gk s) (gk rfl) rfl rfl rfl (by rfl) rfl (by rfl) rfl ?_|refine Aa (Kv _) (gk rfl) rfl rfl rfl (by rfl) rfl (by rfl) rfl ?_|refine Aa (J3 _) (gk rfl) rfl rfl rfl (by rfl) rfl (by rfl) rfl ?_)|(refine gB ?_;first|refine Mc (gk rfl) rfl rfl (by omega) rfl (by omega) ?_)|refine Az rfl (by assumption) ?_|(refine Ax rfl ?_ ?_<;>intro h<;>have hq:=h<;>(try simp only[hqs] at hq))|refine Ap (by kernel_rfl) ?_|(refine gD ?_;first|refine Ai rfl ?_|(refine Ay rfl ?_ ?_<;>intro h<;>have hq:=h<;>(try simp only[hqs] at hq)))|fail)
   all_goals
    refine AG Ab rfl ?_
    first
    |(refine CC (.inl ?_);assumption)
    |(refine CC (.inr (.inl ?_));assumption)
    |(refine CC (.inr (.inr (.inl ?_)));assumption)
    |(refine CC (.inr (.inr (.inr (.inl ?_))));assumption)
    |(refine CC (.inr (.inr (.inr (.inr (.inr ?_)))));refine Agk ?_;omega)
    |(refine Cw ?_ ?_ ?_ ?_ ?_ ?_
      ·assumption
      ·assumption
      ·assumption
      ·assumption
      ·assumption
      ·refine Agj ?_;omega)
  ·have d1:decide (s.Bl=-1)=false:=Agk (by omega);have d3:decide (0<=s.Bl)=true:=Agj h1;have d5:decide (1<=s.tries)=true:=Agj h3;have d6:decide (s.tries<4)=true:=Agj h4;have d7:(!decide (s.tries<4))=false:=by rw[d6];rfl
   repeat'(first|refine sB ?_|refine Ak rfl (by first|exact tt0|omega) ?_|(refine gC ?_;first|refine Aa (BD _ _) (gk rfl) rfl rfl rfl (by rfl) rfl (by rfl) rfl ?_|refine Aa (MS s.qu _) (gk rfl) rfl rfl rfl (by rfl) rfl (by rfl) rfl ?_|refine Aa (D4 s.tb) (gk rfl) rfl rfl rfl (by rfl) rfl (by rfl) rfl ?_|refine Aa (Gk s) (gk rfl) rfl rfl rfl (by rfl) rfl (by rfl) rfl ?_|refine Aa (Kv _) (gk rfl) rfl rfl rfl (by rfl) rfl (by rfl) rfl ?_|refine Aa (J3 _) (gk rfl) rfl rfl rfl (by rfl) rfl (by rfl) rfl ?_)|(refine gB ?_;first|refine Mc (gk rfl) rfl rfl (by omega) rfl (by omega) ?_)|refine Az rfl (by assumption) ?_|(refine Ax rfl ?_ ?_<;>intro h<;>have hq:=h<;>(try simp only[hqs] at hq))|refine Ap (by kernel_rfl) ?_|(refine gD ?_;first|refine Ai rfl ?_|(refine Ay rfl ?_ ?_<;>intro h<;>have hq:=h<;>(try simp only[hqs] at hq)))|fail)
   all_goals
    refine AG Ab rfl ?_
    first
    |(refine CC (.inl ?_);assumption)
    |(refine CC (.inr (.inl ?_));assumption)
    |(refine CC (.inr (.inr (.inl ?_)));assumption)
    |(refine CC (.inr (.inr (.inr (.inl ?_))));assumption)
    |(refine CC (.inr (.inr (.inr (.inr (.inr ?_)))));refine Agk ?_;omega)
    |(refine Cw ?_ ?_ ?_ ?_ ?_ ?_
      ·assumption
      ·assumption
      ·assumption
      ·assumption
      ·assumption
      ·refine Agj ?_;omega)
theorem Fj (n:Int):FnS Tryz.prog 77 [AI n] [] (AB (decide (0<=n/\n<=31))) []:=by
 refine fb Tryz.func77 (by kernel_rfl) rfl Tryz.ntmps77 Tryz.results77 rfl rfl rfl rfl fun E hS=>?_
 repeat'(first|refine sB ?_|refine Ak rfl (by exact tt0) ?_|(refine Ax rfl ?_ ?_<;>intro h<;>have hq:=h<;>(try simp only[hqs] at hq))|fail)
 ·refine Aw Ab rfl ?_;exact decide_eq_decide.2 (by omega)
 ·refine Aw Ab rfl ?_;exact Agk (by omega)
theorem Bf {s:Sta} (h:AQ s=0):Cl s.tb=0/\Br s.qu=0/\(∀p∈s.qu.Af,WT s.tb.node p=false)/\Gn s.held=true/\Hp s.seen=true/\Iz s=true/\S4 s=true:=by
 unfold AQ at h
 split at h
 ·rename_i hk;simp only[okS,C4,Agt,Agl] at hk;obtain⟨⟨⟨⟨⟨h1,h2,h3⟩,h4⟩,h5⟩,h6⟩,h7⟩:=hk;refine⟨h1,h2,fun p hp=>?_,h4,h5,h6,h7⟩;simp only[Bool.not_eq_true'] at h3;have:=(AgC.1 h3) p hp;simpa using this
 ·cases h
theorem IX {n:Nat} {p:Nat->Bool} (h:(List.range n).any p=false) {i:Nat} (hi:i<n):p i=false:=by
 have:=(AgC.1 h) i (AgQ.2 hi);simpa using this
theorem D8 {l:List Hd} (h:Gn l=true):l.length<=16/\∀i,i<l.length->FJ (l.getD i default)=true/\(l.getD i default).data.size<=100/\(0<i->(l.getD (i-1) default).Cb<(l.getD i default).Cb):=by
 simp only[Gn,Agt,Bool.not_eq_true',Agl] at h;refine⟨by omega,fun i hi=>?_⟩;have:=AgJ (IX h.1 hi);refine⟨?_,?_,fun h0=>?_⟩
 ·cases hr:FJ (l.getD i default) with
  |true=>rfl
  |false=>exact absurd (.inl hr) this
 ·exact Nat.le_of_not_lt fun h2=>this (.inr (.inl h2))
 ·exact Int.lt_of_not_ge fun h2=>this (.inr (.inr ⟨h0,h2⟩))
theorem DZ {h:Hd} (hr:FJ h=true):0<=h.Cb/\h.Cb<=255/\0<=h.frame/\h.frame<=65535/\0<=h.til/\h.til<=109951162/\EH h.AT=true:=by
 simp only[FJ,Agt,Agl] at hr;obtain⟨⟨h1,h2,h3,h4,h5,h6⟩,h7⟩:=hr;exact⟨h1,h2,h3,h4,h5,h6,h7⟩
def zAc:Ac:=⟨0,0,0,0,0,0,0,0,0,0,0,0,0,⟨#[]⟩⟩
def zUp:Up:=⟨false,false,0,0,0,0,0,0,0,0,0,0,0,⟨#[]⟩⟩
def noS:Sta:=⟨⟨0,0,[]⟩,⟨0,[]⟩,[],[],0,0,0,0,0,0,0⟩
def OH (l:List Hd) (Cb:Int):Option Nat:=Fs l fun h=>decide (h.Cb=Cb)
def Yt (t:Tb) (to:Int):Bool:=t.cells.any fun c=>decide (c.kind=2)&&c.send&&decide (c.peer=to)
def G3 (s:Sta):Option Nat:=Fs s.qu.Af fun p=>decide (p.to=-1)||!Yt s.tb p.to
def Abz (s:Sta) (o:Option Nat):Pk:=match o with|none=>noP|some i=>s.qu.Af.getD i default
def Adc:Ac:={zAc with kind:=2}
def Adb (s:Sta) (p:Pk):Ac:=⟨1,0,4,s.tb.node,p.to,s.list,s.seq,0,0,0,0,0,0,p.data⟩
def Afc (s:Sta) (c:TC) (h:Hd):Ac:=⟨1,0,1,s.tb.node,c.peer,s.list,h.frame % 256,h.Cb,h.frame,0,0,0,0,h.data⟩
def Wc (s:Sta) (slot:Int) (c:TC):Ac:=if c.send=false then Adc else match OH s.held c.Cb with
 |none=>zAc
 |some i=>if(s.held.getD i default).til<slot\/((s.held.getD i default).AT.any fun y=>decide (c.peer=y))=true then zAc else Afc s c (s.held.getD i default)
def Yu (s:Sta) (c:TC):Ac:=if c.send=false then Adc else if(DS s.qu c.peer).2=true then Adb s (DS s.qu c.peer).1 else zAc
def YM (s:Sta):Ac:=if(G3 s).isSome=true/\s.wait=0 then Adb s (Abz s (G3 s)) else Adc
def G1 (s:Sta) (slot:Int) (c:TC):Ac:=if c.kind=1 then Wc s slot c else if c.kind=2 then Yu s c else if c.kind=3 then YM s else zAc
def RE (a:Ac) (o:Int):Ac:=if a.kind=0 then a else{a with offset:=o}
def C2 (s:Sta) (slot:Int) (c:TC):Ac:=RE (G1 s slot c) c.offset
def Py (s:Sta) (slot:Int):Ac×Int:=if AQ s≠0 then(zAc,1) else if slot<0\/109951162<slot then(zAc,2) else(C2 s slot (atM s.tb slot).1,0)
def Dg (s:Sta) (id:Int):Sta:={s with qu:=(IA s.qu id).1,seq:=(s.seq+1) % 256,Bl:=-1,tries:=0}
def Bz (s:Sta) (c:TC):Pk:=if c.kind=3 then Abz s (G3 s) else(DS s.qu c.peer).1
def Et (s:Sta) (c:TC):Int:=if s.Bl=(Bz s c).id then s.tries+1 else 1
def TA (s:Sta) (c:TC) (AT:Bool):Sta:=if c.kind=3 then{Dg s (Bz s c).id with back:=0,wait:=0} else Dg s (Bz s c).id
def BS (x:Int):Int:=(1103515245*x+12345) % 2147483648
def AdH (s:Sta) (c:TC):Sta:={s with Bl:=(Bz s c).id,tries:=Et s c,back:=min (s.back+1) 5,CY:=BS s.CY}
def L5 (s:Sta) (c:TC):Sta:=if c.kind=3 then{AdH s c with wait:=BS s.CY/65536 % 2^(min (s.back+1) 5).toNat}
 else{s with Bl:=(Bz s c).id,tries:=Et s c}
def CS (s:Sta) (c:TC) (AT:Bool):Sta:=
 if(Bz s c).to=-1 then Dg s (Bz s c).id else if AT=true\/4<=Et s c then TA s c AT else L5 s c
def T7 (f:Fr) (new:Bool):Up:=⟨true,new,f.kind,f.source,f.target,f.list,f.seq,f.Cb,f.number,f.err,f.slot,f.rank,f.epoch,f.data⟩
def KW (r:Rs):Fr:=⟨r.BF,r.source,r.target,r.list,r.seq,r.Cb,r.number,r.err,r.slot,r.rank,r.epoch,r.data⟩
def DI (s:Sta):Sta:=if 0<=s.Bl/\hasB s.qu.Af s.Bl=false then{s with Bl:=-1,tries:=0} else s
def I3 (s:Sta) (p:Pk):Sta×List Pk×Int:=if AQ s≠0 then(noS,[],1) else if(EW s.qu p).2.2≠0 then(noS,[],(EW s.qu p).2.2)
 else if p.to=s.tb.node then(noS,[],12) else if 100<p.data.size then(noS,[],8) else(DI {s with qu:=(EW s.qu p).1},(EW s.qu p).2.1,0)
def Cv (s:Sta) (slot:Int):Sta×List Pk×Int:=if AQ s≠0 then(noS,[],1) else if slot<0\/109951162<slot then(noS,[],2)
 else(DI {s with held:=s.held.filter fun h=>!decide (h.til<slot),qu:=(C1 s.qu slot).1},(C1 s.qu slot).2,0)
def MF (t:Tb) (Bk CY:Int):Sta×Int:=if Cl t≠0 then(noS,1) else if Bk<1\/64<Bk\/CY<0\/2147483647<CY then(noS,2) else(⟨t,⟨Bk,[]⟩,[],[],0,0,-1,0,0,0,CY⟩,0)
end Go.Proofs
end
section
namespace Go.Proofs.P
open Go Go.Sx
set_option maxRecDepth 4000
attribute [local irreducible] VR VC thenQ blockQ
structure Nb where
 node:Int
 epoch:Int
 rank:Int
 slot:Int
 att:Int
 ack:Int
 deriving DecidableEq,Inhabited
def Nb.enc (x:Nb):List D:=[.int .i64 x.node,.int .i64 x.epoch,.int .i64 x.rank,.int .i64 x.slot,.int .i64 x.att,.int .i64 x.ack]
abbrev nbs (l:List Nb):D:=Iv Nb.enc 6 l
def inR (n lo hi:Int):Bool:=decide (lo<=n/\n<=hi)
theorem C0 (n lo hi:Int):(inR n lo hi=true)=(lo<=n/\n<=hi):=by simp[inR]
theorem Ts (n lo hi:Int):(inR n lo hi=false)=¬(lo<=n/\n<=hi):=by simp[inR]
theorem DY (n lo hi:Int):FnS Tryz.prog 116 [AI n,AI lo,AI hi] [] (AB (inR n lo hi)) []:=by
 refine fb Tryz.func116 (by kernel_rfl) rfl Tryz.ntmps116 Tryz.results116 rfl rfl rfl rfl fun E hS=>?_
 repeat'(first|refine sB ?_|refine Ak rfl (by exact tt0) ?_|(refine Ax rfl ?_ ?_<;>intro h<;>have hq:=h<;>(try simp only[hqs] at hq))|fail)
 all_goals refine Aw Ab rfl ?_
 all_goals simp_all [inR]<;>omega
def DO (n e r s:Int):Bool:=inR n 0 31&&inR e 1 65535&&inR r 0 65534&&inR s 0 1099511627776
theorem C6 (n e r s:Int):FnS Tryz.prog 115 [AI n,AI e,AI r,AI s] [] (AB (DO n e r s)) []:=by
 refine fb Tryz.func115 (by kernel_rfl) rfl Tryz.ntmps115 Tryz.results115 rfl rfl rfl rfl fun E hS=>?_
 repeat'(first|refine sB ?_|refine Ak rfl (by exact tt0) ?_|(refine gC ?_;first|refine AN (DY _ _ _) (gk rfl) rfl rfl rfl rfl rfl rfl ?_)|(refine Ax rfl ?_ ?_<;>intro h<;>have hq:=h<;>(try simp only[hqs] at hq))|fail)
 all_goals refine Aw Ab rfl ?_
 all_goals simp_all [DO]
def Ht (l:List Nb) (i:Nat):Int:=
 let x:=l.getD i default
 if DO x.node x.epoch x.rank x.slot&&inR x.att 0 255&&inR x.ack 0 x.att then
  if 0<i/\x.node<=(l.getD (i-1) default).node then 5 else 0
 else 2
def checkNb (l:List Nb):Int:=if 32<l.length then 8 else Dl l.length (Ht l)
theorem QP {l:List Nb} {k:Nat} {e:Int} (h0:l.length<=32) (h:k<=l.length/\∀i,i<k->Ht l i=0) (hk:k<l.length) (he:Ht l k=e) (hne:e≠0):e=checkNb l:=by
 subst he;rw[checkNb,AgY (by omega),Gr h.2 hk hne]
theorem O8 {l:List Nb} {k:Nat} (h0:l.length<=32) (h:k<=l.length/\∀i,i<k->Ht l i=0) (hk:l.length<=k):(0:Int)=checkNb l:=by
 rw[checkNb,AgY (by omega),CI fun i hi=>h.2 i (by omega)]
theorem BM (l:List Nb):FnS Tryz.prog 73 [AD (nbs l)] [] (AI (checkNb l)) []:=by
 refine fb Tryz.func73 (by kernel_rfl) rfl Tryz.ntmps73 Tryz.results73 rfl rfl rfl rfl fun E hS=>?_
 refine B9 (t:=0) rfl fun hb=>?_
 repeat'(first|refine sC ?_|refine Ak rfl (by exact tt0) ?_|(refine gD ?_;first|(refine Ay rfl ?_ ?_<;>intro h<;>have hq:=h<;>(try simp only[hqs] at hq)))|fail)
 ·refine AG Ab rfl ?_;simp[checkNb];omega
 ·refine AK (ι:=Nat) (fun k=>AS [(0,AD (nbs l)),(8,AD (nbs l)),(9,AI l.length),(10,AI k)] []) (fun k=>k<=l.length/\∀i,i<k->Ht l i=0) (fun k=>l.length-k) 0 ⟨Ag1 _,fun i hi=>absurd hi (AgW _)⟩ ?_ ?_
  ·exact Ck ⟨rfl,rfl,rfl,rfl,trivial⟩ trivial rfl
  ·intro k hk
   repeat'(first|refine sC ?_|refine Ak rfl (by first|exact tt0|omega) ?_|(refine gC ?_;first|refine AN (C6 _ _ _ _) (gk rfl) rfl rfl rfl rfl rfl rfl ?_|refine AN (DY _ _ _) (gk rfl) rfl rfl rfl rfl rfl rfl ?_)|(refine gI ?_;first|refine Au (gk rfl) rfl rfl rfl rfl rfl (by omega) rfl ?_|refine Dz (gk rfl) rfl rfl rfl rfl rfl (by omega) rfl ?_)|(refine Ax rfl ?_ ?_<;>intro h<;>have hq:=h<;>(try simp only[hqs] at hq))|refine Ap (by kernel_rfl) ?_|(refine gD ?_;first|refine Ai rfl ?_|refine Ah rfl ?_|(refine Ay rfl ?_ ?_<;>intro h<;>have hq:=h<;>(try simp only[hqs] at hq)))|fail)
   all_goals first
    |(refine AG Ab rfl ?_
      first
      |exact(O8 (by omega) hk (by omega)).symm
      |(refine(QP (by omega) hk (by omega) ?_ (by decide)).symm;simp_all [Ht]))
    |(refine⟨k+1,⟨by omega,fun i hi=>?_⟩,by omega,Ck ⟨rfl,rfl,rfl,rfl,trivial⟩ trivial rfl⟩
      by_cases hik:i<k
      ·exact hk.2 i hik
      ·have:i=k:=by omega
       subst this
       simp_all [Ht])
    |trace_state
structure Rk where
 node:Int
 epoch:Int
 parent:Int
 heard:Int
 rank:Int
 least:Int
 deriving DecidableEq,Inhabited
def Rk.cs (r:Rk):List C:=[.d (.int .i64 r.node),.d (.int .i64 r.epoch),.d (.int .i64 r.parent),.d (.int .i64 r.heard),.d (.int .i64 r.rank),.d (.int .i64 r.least)]
abbrev rkA (r:Rk):AV:=.agg r.cs
theorem DB (n lo hi:Int):FnS Tryz.prog 108 [AI n,AI lo,AI hi] [] (AB (inR n lo hi)) []:=by
 refine fb Tryz.func108 (by kernel_rfl) rfl Tryz.ntmps108 Tryz.results108 rfl rfl rfl rfl fun E hS=>?_
 repeat'(first|refine sB ?_|refine Ak rfl (by exact tt0) ?_|(refine Ax rfl ?_ ?_<;>intro h<;>have hq:=h<;>(try simp only[hqs] at hq))|fail)
 all_goals refine Aw Ab rfl ?_
 all_goals simp_all [inR]<;>omega
def Ei (n:Int):Bool:=inR n 0 31
theorem Fj (n:Int):FnS Tryz.prog 65 [AI n] [] (AB (Ei n)) []:=by
 refine fb Tryz.func65 (by kernel_rfl) rfl Tryz.ntmps65 Tryz.results65 rfl rfl rfl rfl fun E hS=>?_
 repeat'(first|refine sB ?_|refine Ak rfl (by exact tt0) ?_|(refine gC ?_;first|refine AN (DB _ _ _) (gk rfl) rfl rfl rfl rfl rfl rfl ?_)|fail)
 all_goals exact Aw Ab rfl rfl
def Uc (e r:Int):Bool:=inR e 1 65535&&inR r 0 65534
theorem Ni (e r:Int):FnS Tryz.prog 254 [AI e,AI r] [] (AB (Uc e r)) []:=by
 refine fb Tryz.func254 (by kernel_rfl) rfl Tryz.ntmps254 Tryz.results254 rfl rfl rfl rfl fun E hS=>?_
 repeat'(first|refine sB ?_|refine Ak rfl (by exact tt0) ?_|(refine gC ?_;first|refine AN (DB _ _ _) (gk rfl) rfl rfl rfl rfl rfl rfl ?_)|(refine Ax rfl ?_ ?_<;>intro h<;>have hq:=h<;>(try simp only[hqs] at hq))|fail)
 all_goals refine Aw Ab rfl ?_
 all_goals simp_all [Uc]
def Fm (r:Rk):Bool:=inR r.least 1 65535||(decide (r.node=0)&&decide (r.least=0))
def E4 (r:Rk):Bool:=
 if r.node=0 then decide (1<=r.epoch)&&decide (r.parent=-1)&&decide (r.heard=0)&&decide (r.rank=0)&&(decide (r.least=0)||decide (r.least=65535))
 else if r.parent=-1 then decide (r.heard=65535)&&decide (r.rank=65535)&&(decide (0<r.epoch)||decide (r.least=65535))
 else Ei r.parent&&decide (r.parent≠r.node)&&decide (1<=r.epoch)&&decide (0<=r.heard)&&decide (r.heard<r.rank)&&decide (r.heard<r.least)&&decide (r.rank<65535)
def rkErr (r:Rk):Int:=if Ei r.node&&inR r.epoch 0 65535&&Fm r then(if E4 r then 0 else 1) else 2
theorem Dq (r:Rk):FnS Tryz.prog 72 [rkA r] [] (AI (rkErr r)) []:=by
 refine fb Tryz.func72 (by kernel_rfl) rfl Tryz.ntmps72 Tryz.results72 rfl rfl rfl rfl fun E hS=>?_
 refine JX (AS [(1,.c (.ptr 1 0)),(2,AI 0)] [(1,.box r.cs)]) ?_ ?_
 ·repeat'(first|refine sR ?_|refine Ak rfl (by exact tt0) ?_|fail)
  show Le _ _ _;exact Ck ⟨rfl,rfl,trivial⟩ ⟨rfl,trivial⟩ rfl
 refine JX (AS [(1,.c (.ptr 1 0)),(2,AI 0),(3,AB (Fm r))] [(1,.box r.cs)]) ?_ ?_
 ·repeat'(first|refine sR ?_|refine Ak rfl (by exact tt0) ?_|(refine gC ?_;first|refine AN (DB _ _ _) (gk rfl) rfl rfl rfl rfl rfl rfl ?_)|(refine Ax rfl ?_ ?_<;>intro h<;>have hq:=h<;>(try simp only[hqs] at hq))|fail)
  all_goals show Le _ _ _
  all_goals refine Ck ⟨rfl,rfl,AdS ?_ rfl,trivial⟩ ⟨rfl,trivial⟩ rfl
  all_goals simp_all [Fm]
 repeat'(first|refine sR ?_|refine Ak rfl (by exact tt0) ?_|(refine gC ?_;first|refine AN (DB _ _ _) (gk rfl) rfl rfl rfl rfl rfl rfl ?_|refine AN (Fj _) (gk rfl) rfl rfl rfl rfl rfl rfl ?_)|(refine Ax rfl ?_ ?_<;>intro h<;>have hq:=h<;>(try simp only[hqs] at hq))|(show VC _ (.seq (.region _ _ _) _) _ _;refine BC ?_)|(show VC _ (.seq (.seq (.region _ _ _) (.cond _ _ _)) _) _ _;refine BC ?_)|(refine gD ?_;first|refine Ai rfl ?_|(refine Ay rfl ?_ ?_<;>intro h<;>have hq:=h<;>(try simp only[hqs] at hq)))|fail)
 all_goals first
  |(refine AG Ab rfl ?_;simp_all [rkErr])|refine JX (AS [(1,.c (.ptr 1 0)),(2,AI 0),(4,AB (E4 r))] [(1,.box r.cs)]) ?_ ?_
 ·repeat'(first|refine sC ?_|refine Ak rfl (by exact tt0) ?_|(refine gC ?_;first|refine AN (Fj _) (gk rfl) rfl rfl rfl rfl rfl rfl ?_)|(refine Ax rfl ?_ ?_<;>intro h<;>have hq:=h<;>(try simp only[hqs] at hq))|(refine gD ?_;first|(refine Ay rfl ?_ ?_<;>intro h<;>have hq:=h<;>(try simp only[hqs] at hq)))|fail)
  all_goals show Le _ _ _
  all_goals refine Ck ⟨rfl,rfl,AdS ?_ rfl,trivial⟩ ⟨rfl,trivial⟩ rfl
  all_goals simp_all [E4]<;>omega
 ·repeat'(first|refine sB ?_|refine Ak rfl (by exact tt0) ?_|(refine gD ?_;first|(refine Ay rfl ?_ ?_<;>intro h<;>have hq:=h<;>(try simp only[hqs] at hq)))|fail)
  all_goals refine AG Ab rfl ?_
  all_goals simp_all [rkErr]
def Lj (r:Rk) (e k:Int):Bool:=decide (rkErr r=0)&&decide (r.node≠0)&&Uc e k&&(decide (r.epoch<e)||(decide (e=r.epoch)&&decide (k<r.least)))
theorem OU (r:Rk) (e k:Int):FnS Tryz.prog 256 [rkA r,AI e,AI k] [] (AB (Lj r e k)) []:=by
 refine fb Tryz.func256 (by kernel_rfl) rfl Tryz.ntmps256 Tryz.results256 rfl rfl rfl rfl fun E hS=>?_
 repeat'(first|refine sB ?_|refine Ak rfl (by exact tt0) ?_|(refine gC ?_;first|refine AN (Dq r) (gk rfl) rfl rfl rfl rfl rfl rfl ?_|refine AN (Ni _ _) (gk rfl) rfl rfl rfl rfl rfl rfl ?_)|(refine Ax rfl ?_ ?_<;>intro h<;>have hq:=h<;>(try simp only[hqs] at hq))|(refine gD ?_;first|refine Ai rfl ?_|(refine Ay rfl ?_ ?_<;>intro h<;>have hq:=h<;>(try simp only[hqs] at hq)))|fail)
 all_goals try refine Aw Ab rfl ?_
 all_goals simp_all [Lj]
def BP (r:Rk) (e:Int):Rk:=if r.epoch<e then{r with epoch:=e,least:=65535} else r
theorem Ju {P:Program} {σ:St} {t nm:Nat} {T:TypeId} {ti:TyI} {cs cs':List C} {e:Exit} (he:e=.normal\/e=.ret) [ht:AM P T ti] (hx:σ (.s t)=some (.v (.c (.ptr nm 0)))) (hb:σ (.b nm)=some (.k (.box cs'))) (hagg:ti.isAgg=true)
  (hl:(cs'.take ti.size).length=ti.size) (h:cs=cs'.take ti.size):Hr P [.cell t T] (.agg cs) [] e σ:=
 ⟨he,[.agg ((cs'.drop 0).take ti.size)],.agg hx hb hagg hl .nil,by rw[h];rfl,fun p hp=>by cases hp⟩
theorem L3 (r:Rk) (e:Int):FnS Tryz.prog 255 [rkA r,AI e] [] (rkA (BP r e)) []:=by
 refine fb Tryz.func255 (by kernel_rfl) rfl Tryz.ntmps255 Tryz.results255 rfl rfl rfl rfl fun E hS=>?_
 repeat'(first|refine sB ?_|refine Ak rfl (by exact tt0) ?_|(refine gD ?_;first|(refine Ay rfl ?_ ?_<;>intro h<;>have hq:=h<;>(try simp only[hqs] at hq)))|fail)
 all_goals refine Ju Ab rfl rfl rfl rfl ?_
 all_goals unfold BP
 all_goals split
 all_goals first|rfl|(exfalso;omega)
def Hu (r:Rk):Rk:=if rkErr r=0/\r.node≠0 then{r with parent:=-1,heard:=65535,rank:=65535} else r
theorem Ol (r:Rk):FnS Tryz.prog 187 [rkA r] [] (rkA (Hu r)) []:=by
 refine fb Tryz.func187 (by kernel_rfl) rfl Tryz.ntmps187 Tryz.results187 rfl rfl rfl rfl fun E hS=>?_
 repeat'(first|refine sB ?_|refine Ak rfl (by exact tt0) ?_|(refine gC ?_;first|refine AN (Dq r) (gk rfl) rfl rfl rfl rfl rfl rfl ?_)|(refine Ax rfl ?_ ?_<;>intro h<;>have hq:=h<;>(try simp only[hqs] at hq))|(refine gD ?_;first|refine Ah rfl ?_|(refine Ay rfl ?_ ?_<;>intro h<;>have hq:=h<;>(try simp only[hqs] at hq)))|fail)
 all_goals refine Ju Ab rfl rfl rfl rfl ?_
 all_goals unfold Hu
 all_goals split
 all_goals first|rfl|(exfalso;simp_all;done)
def rkZ:Rk:=⟨0,0,0,0,0,0⟩
theorem Ee {P:Program} {σ:St} {t u nm:Nat} {T:TypeId} {ti:TyI} {cs cs':List C} {x x':D} {e:Exit} (he:e=.normal\/e=.ret) [ht:AM P T ti] (hx:σ (.s t)=some (.v (.c (.ptr nm 0)))) (hb:σ (.b nm)=some (.k (.box cs'))) (hagg:ti.isAgg=true)
  (hl:(cs'.take ti.size).length=ti.size) (hu:σ (.s u)=some (.v (AD x'))) (h:cs=cs'.take ti.size) (h2:x=x'):Hr P [.cell t T,.tmp u] (.tup [.agg cs,AD x]) [] e σ:=
 ⟨he,[.agg ((cs'.drop 0).take ti.size),AD x'],.agg hx hb hagg hl (.tmp rfl hu .nil),by rw[h,h2];rfl,fun p hp=>by cases hp⟩
def Hh (r:Rk) (fr e k c:Int):Rk×Int:=
 if rkErr r≠0 then(rkZ,1)
 else if(Ei fr&&decide (fr≠r.node)&&Uc e k&&inR c 1 1023)=false then(rkZ,2)
 else if Lj r e k=false then(rkZ,12)
 else if 65535<=k+c then(rkZ,21)
 else({BP r e with parent:=fr,heard:=k,rank:=k+c},0)
theorem Fa (e k:Int):(Uc e k=true)=((1<=e/\e<=65535)/\0<=k/\k<=65534):=by simp[Uc,inR]
theorem Sq (e k:Int):(Uc e k=false)=¬((1<=e/\e<=65535)/\0<=k/\k<=65534):=by rw[<-Fa];simp
end Go.Proofs.P
end
