/-
  What functions of the program hand back, and plain laws on that. No condition.
-/
import Derived.Test.YtdlcbilgemnomaaGreatSxLibB
import Derived.Test.YtdlcbilgemnomaaGreatSxT30
import Derived.Test.YtdlcbilgemnomaaGreatSxMaa
import Derived.Test.YtdlcbilgemnomaaGreatSxLibC
set_option linter.unusedSimpArgs false
set_option linter.unusedVariables false
section
namespace Go.Proofs.T
open Go Go.Sx
set_option maxRecDepth 4000
attribute [local irreducible] VR VC thenQ blockQ retL
def Ha (a b:Int):Int:=if a<b then -1 else if b<a then 1 else 0
theorem GJ (a:Int):FnS Tryz.prog 209 [AI a] [] (AB false) []:=by
 refine fb Tryz.func209 (by kernel_rfl) rfl Tryz.ntmps209 Tryz.results209 rfl rfl rfl rfl fun E hS=>?_
 repeat'(first|refine sB ?_|refine Aj rfl (by exact tt0) ?_|fail)
 all_goals exact As Ab rfl (by simp)
theorem GP (a b:Int):FnS Tryz.prog 154 [AI a,AI b] [] (AI (Ha a b)) []:=by
 refine fb Tryz.func154 (by kernel_rfl) rfl Tryz.ntmps154 Tryz.results154 rfl rfl rfl rfl fun E hS=>?_
 repeat'(first|refine sB ?_|refine Aj rfl (by exact tt0) ?_|(refine gC ?_;first|refine AN (GJ _) (gk rfl) rfl rfl rfl rfl rfl rfl ?_)|(refine gD ?_;first|refine Ag rfl ?_|(refine Ay rfl ?_ ?_<;>intro h<;>have hq:=h<;>(try simp only[hqs] at hq)))|fail)
 all_goals refine AG Ab rfl ?_
 all_goals unfold Ha
 all_goals repeat' split
 all_goals first|rfl|(exfalso;simp_all;done)|(exfalso;omega)|trace_state
def orI:List Int->Int
 |[]=>0
 |x :: l=>if x≠0 then x else orI l
abbrev ints (l:List Int):D:=IS (fun x=>[.int .i64 x]) 1 l
theorem J2:∀(l:List Int) (k:Nat),(∀i,i<k->l.getD i 0=0)->k<=l.length->orI l=orI (l.drop k)
 |l,0,_,_=>rfl
 |[],k+1,_,h=>absurd h (by simp)
 |x :: l,k+1,h,hk=>by
  have h0:x=0:=h 0 (by omega);rw[List.drop_succ_cons,<-J2 l k (fun i hi=>h (i+1) (by omega)) (by simpa using hk)];simp[orI,h0]
theorem PB (l:List Int):FnS Tryz.prog 153 [AD (ints l)] [] (AI (orI l)) []:=by
 refine fb Tryz.func153 (by kernel_rfl) rfl Tryz.ntmps153 Tryz.results153 rfl rfl rfl rfl fun E hS=>?_
 refine BP (t:=0) rfl fun hb=>?_
 repeat'(first|refine sC ?_|refine Aj rfl (by exact tt0) ?_|fail)
 refine AA (ι:=Nat) (fun k=>AS [(3,AI 0),(6,AD (ints l)),(7,AI l.length),(8,AI k)] []) (fun k=>k<=l.length/\∀i,i<k->l.getD i 0=0) (fun k=>l.length-k) 0 ⟨AeV _,fun i hi=>absurd hi (AeQ _)⟩ ?_ ?_
 ·exact B4 ⟨rfl,rfl,rfl,rfl,trivial⟩ trivial rfl
 ·intro k hk
  repeat'(first|refine sC ?_|refine Aj rfl (by first|exact tt0|omega) ?_|(refine gI ?_;first|refine Aq (gk rfl) rfl rfl rfl rfl rfl (by omega) rfl ?_)|(refine gD ?_;first|(refine Ay rfl ?_ ?_<;>intro h<;>have hq:=h<;>(try simp only[hqs] at hq)))|fail)
  ·refine AG Ab rfl ?_;rw[J2 l k hk.2 hk.1,List.drop_eq_getElem_cons (by omega),orI,AeT]
   ·simp[Aec];rw[Ael (by omega)];rfl
   ·rw[Aec,Ael (by omega)] at hq;exact hq
  ·refine⟨k+1,⟨by omega,fun i hi=>?_⟩,by omega,B4 ⟨rfl,rfl,rfl,rfl,trivial⟩ trivial rfl⟩;by_cases hik:i<k
   ·exact hk.2 i hik
   ·have:i=k:=by omega
    subst this;exact hq
  ·refine AG Ab rfl ?_;rw[J2 l k hk.2 hk.1,List.drop_of_length_le (by omega)];rfl
structure TC where
 slot:Int
 offset:Int
 kind:Int
 send:Bool
 peer:Int
 Ca:Int
 deriving DecidableEq,Inhabited
def TC.enc (x:TC):List D:=[.int .i64 x.slot,.int .i64 x.offset,.int .i64 x.kind,.bool x.send,.int .i64 x.peer,.int .i64 x.Ca]
def TC.cs (x:TC):List C:=[.d (.int .i64 x.slot),.d (.int .i64 x.offset),.d (.int .i64 x.kind),.d (.bool x.send),.d (.int .i64 x.peer),.d (.int .i64 x.Ca)]
abbrev tcA (x:TC):AV:=.agg x.cs
abbrev tcs (l:List TC):D:=IS TC.enc 6 l
theorem AcC {x y:TC} (h:[SV.int IntKind.i64 x.Ca,SV.int IntKind.i64 x.peer,SV.bool x.send,SV.int IntKind.i64 x.kind,SV.int IntKind.i64 x.offset,SV.int IntKind.i64 x.slot].reverse=[SV.int IntKind.i64 y.Ca,SV.int IntKind.i64 y.peer,SV.bool y.send,SV.int IntKind.i64 y.kind,SV.int IntKind.i64 y.offset,SV.int IntKind.i64 y.slot].reverse):x=y:=by
 have h:=List.reverse_inj.1 h;cases x;cases y;simp only[List.cons.injEq,SV.int.injEq,SV.bool.injEq,SV.str.injEq,true_and,and_true] at h;obtain⟨rfl,rfl,rfl,rfl,rfl,rfl⟩:=h
 rfl
def D7 (n:Int):Bool:=decide (0<=n/\n<32)
theorem NJ (n:Int):FnS Tryz.prog 105 [AI n] [] (AB (D7 n)) []:=by
 refine fb Tryz.func105 (by kernel_rfl) rfl Tryz.ntmps105 Tryz.results105 rfl rfl rfl rfl fun E hS=>?_
 repeat'(first|refine sB ?_|refine Aj rfl (by exact tt0) ?_|(refine Ax rfl ?_ ?_<;>intro h<;>have hq:=h<;>(try simp only[hqs] at hq))|fail)
 all_goals refine As Ab rfl ?_
 all_goals simp_all [D7]<;>omega
def Vn (a b:TC):Int:=orI [Ha a.slot b.slot,Ha a.kind b.kind]
theorem Oz (a b:TC):FnS Tryz.prog 107 [tcA a,tcA b] [] (AI (Vn a b)) []:=by
 refine fb Tryz.func107 (by kernel_rfl) rfl Tryz.ntmps107 Tryz.results107 rfl rfl rfl rfl fun E hS=>?_
 repeat'(first|refine sB ?_|refine Aj rfl (by exact tt0) ?_|(refine gC ?_;first|refine AN (GP _ _) (gk rfl) rfl rfl rfl rfl rfl rfl ?_|refine Ip [15] (PB [Ha a.slot b.slot,Ha a.kind b.kind]) (gk rfl) rfl (by(repeat'(first|exact .nil|refine .cons ?_ ?_|exact .of0 (.c (H4 (by decide) rfl rfl (by repeat'(first|exact tt0|refine⟨?_,?_⟩|rfl))))))<;>fail) rfl rfl rfl rfl rfl ?_)|refine Ap (by kernel_rfl) ?_|fail)
 all_goals exact AG Ab rfl rfl
def Oj (c:TC) (self len:Int):Int:=
 if c.kind≠3/\c.kind≠1/\c.kind≠2 then 1
 else if(c.kind≠1/\c.Ca≠-1)\/(c.kind=3/\(c.peer≠-1\/c.send=true)) then 1
 else if(c.slot<0\/len<=c.slot)\/(c.offset<0\/16<=c.offset)\/(c.kind≠3/\(D7 c.peer=false\/c.peer=self))\/(c.kind=1/\c.Ca<0) then 2 else 0
set_option maxHeartbeats 2000000 in
theorem HZ (c:TC) (self len:Int):FnS Tryz.prog 106 [tcA c,AI self,AI len] [] (AI (Oj c self len)) []:=by
 have h3:c.kind=3\/c.kind=1\/c.kind=2\/(c.kind≠3/\c.kind≠1/\c.kind≠2):=by omega
 obtain⟨slot,off,kind,send,peer,Ca⟩:=c;dsimp only at h3;refine fb Tryz.func106 (by kernel_rfl) rfl Tryz.ntmps106 Tryz.results106 rfl rfl rfl rfl fun E hS=>?_
 rcases h3 with rfl|rfl|rfl|⟨h,h',h''⟩
 rotate_left 3
 have a1:(!decide (kind=3))=true:=by simp[h]
 have a2:(!decide (kind=1))=true:=by simp[h']
 have a3:decide (kind≠2)=true:=by simp[h'']
 all_goals
  repeat'(first|refine sC ?_|refine Aj rfl (by exact tt0) ?_|(refine gC ?_;first|refine AN (NJ _) (gk rfl) rfl rfl rfl rfl rfl rfl ?_)|refine Az rfl (by assumption) ?_|(refine Ax rfl ?_ ?_<;>intro h<;>have hq:=h<;>(try simp only[hqs] at hq))|(refine gD ?_;first|refine Ah rfl ?_|refine Ag rfl ?_|refine At rfl (by assumption) ?_|(refine Ay rfl ?_ ?_<;>intro h<;>have hq:=h<;>(try simp only[hqs] at hq)))|fail)
  all_goals first
   |(refine AG Ab rfl ?_;unfold Oj;simp_all;done)
   |(refine AG Ab rfl ?_;unfold Oj;simp_all<;>omega)
   |(exfalso;omega)
   |trace_state
structure Tb where
 node:Int
 len:Int
 cells:List TC
 deriving Inhabited
def Tb.cs (t:Tb):List C:=[.d (.int .i64 t.node),.d (.int .i64 t.len),.d (tcs t.cells)]
abbrev tbA (t:Tb):AV:=.agg t.cs
def KN (t:Tb) (k:Nat):Int:=
 if Oj (t.cells.getD k default) t.node t.len≠0 then Oj (t.cells.getD k default) t.node t.len
 else if 0<k/\0<=Vn (t.cells.getD (k-1) default) (t.cells.getD k default) then 5 else 0
def Ci (t:Tb):Int:=if D7 t.node=false\/t.len<1\/512<t.len then 2 else if 512<t.cells.length then 8 else Dc t.cells.length (KN t)
theorem LD {t:Tb} {k:Nat} {e:Int} (h1:¬(D7 t.node=false\/t.len<1\/512<t.len)) (h0:t.cells.length<=512) (h:k<=t.cells.length/\∀i,i<k->KN t i=0) (hk:k<t.cells.length) (he:KN t k=e) (hne:e≠0):Ci t=e:=by
 subst he;rw[Ci,AeS h1,AeS (by omega),Gq h.2 hk hne]
theorem Qe {t:Tb} {k:Nat} (h1:¬(D7 t.node=false\/t.len<1\/512<t.len)) (h0:t.cells.length<=512) (h:k<=t.cells.length/\∀i,i<k->KN t i=0) (hk:t.cells.length<=k):Ci t=0:=by
 rw[Ci,AeS h1,AeS (by omega),CD fun i hi=>h.2 i (by omega)]
theorem DT (t:Tb):FnS Tryz.prog 62 [tbA t] [] (AI (Ci t)) []:=by
 refine fb Tryz.func62 (by kernel_rfl) rfl Tryz.ntmps62 Tryz.results62 rfl rfl rfl rfl fun E hS=>?_
 repeat'(first|refine sC ?_|refine Aj rfl (by exact tt0) ?_|(refine gC ?_;first|refine Aa (NJ _) (gk rfl) rfl rfl rfl (by rfl) rfl (by rfl) rfl ?_)|(refine Ax rfl ?_ ?_<;>intro h<;>have hq:=h<;>(try simp only[hqs] at hq))|(refine gD ?_;first|refine Ah rfl ?_|(refine Ay rfl ?_ ?_<;>intro h<;>have hq:=h<;>(try simp only[hqs] at hq)))|fail)
 all_goals first
  |(refine AG Ab rfl ?_;unfold Ci;simp_all;done)
  |(refine AG Ab rfl ?_;unfold Ci;simp_all;omega)
  |skip
 have h1:¬(D7 t.node=false\/t.len<1\/512<t.len):=by simp_all
 refine AA (ι:=Nat) (fun k=>AS [(1,.c (.ptr 1 0)),(25,AD (tcs t.cells)),(26,AI t.cells.length),(27,AI k)] [(1,.box t.cs)]) (fun k=>k<=t.cells.length/\∀i,i<k->KN t i=0) (fun k=>t.cells.length-k) 0 ⟨AeV _,fun i hi=>absurd hi (AeQ _)⟩ ?_ ?_
 ·exact B4 ⟨rfl,rfl,rfl,rfl,trivial⟩ ⟨rfl,trivial⟩ rfl
 ·intro k hk
  repeat'(first|refine sC ?_|refine Aj rfl (by first|exact tt0|omega) ?_|(refine gC ?_;first|refine Aa (HZ _ _ _) (gk rfl) rfl rfl rfl (by rfl) rfl (by rfl) rfl ?_|refine Aa (Oz _ _) (gk rfl) rfl rfl rfl (by rfl) rfl (by rfl) rfl ?_)|(refine gI ?_;first|refine Aq (gk rfl) rfl rfl rfl rfl rfl (by omega) rfl ?_|refine Dm (gk rfl) rfl rfl rfl rfl rfl (by omega) rfl ?_)|(refine Ax rfl ?_ ?_<;>intro h<;>have hq:=h<;>(try simp only[hqs] at hq))|refine Ap (by kernel_rfl) ?_|(refine gD ?_;first|refine Ag rfl ?_|(refine Ay rfl ?_ ?_<;>intro h<;>have hq:=h<;>(try simp only[hqs] at hq)))|fail)
  all_goals first
   |(refine AG Ab rfl ?_
     first
     |exact Qe h1 (by omega) hk (by omega)
     |(refine LD h1 (by omega) hk (by omega) ?_ hq;rw[KN,AeT hq];done)
     |(refine LD h1 (by omega) hk (by omega) ?_ (by decide);rw[KN,AeS (by omega),AeT (by omega)];done))
   |(refine⟨k+1,⟨by omega,fun i hi=>?_⟩,by omega,B4 ⟨rfl,rfl,rfl,rfl,trivial⟩ ⟨rfl,trivial⟩ rfl⟩
     by_cases hik:i<k
     ·exact hk.2 i hik
     ·have:i=k:=by omega
      subst this;rw[KN,AeS (by omega),AeS (by omega)])
   |trace_state
def KW (a b:TC):Bool:=decide (a.slot<b.slot)||(decide (a.slot=b.slot)&&decide (a.kind<b.kind))
theorem WO (a b:TC):0<=Vn a b↔KW a b=false:=by
 unfold Vn KW orI orI orI Ha;by_cases h1:a.slot<b.slot
 ·simp[h1]
 ·by_cases h2:b.slot<a.slot
  ·have:¬a.slot=b.slot:=by omega
   simp[h1,h2,this]
  ·have e:a.slot=b.slot:=by omega
   by_cases h3:a.kind<b.kind
   ·simp[e,h3]
   ·by_cases h4:b.kind<a.kind
    ·simp[e,h3,h4]
    ·simp[e,h3,h4]

theorem KO (a b:List TC):FnS Tryz.prog 119 [AD (tcs a),AD (tcs b)] [] (AB (decide (a=b))) []:=by
 refine fb Tryz.func119 (by kernel_rfl) rfl Tryz.ntmps119 Tryz.results119 rfl rfl rfl rfl fun E hS=>?_
 refine BP (t:=0) rfl fun hb=>?_
 repeat'(first|refine sC ?_|refine Aj rfl (by exact tt0) ?_|(refine gD ?_;first|(refine Ay rfl ?_ ?_<;>intro h<;>have hq:=h<;>(try simp only[hqs] at hq)))|fail)
 ·refine As Ab rfl ?_;have:a≠b:=fun e=>by subst e;simp_all
  simp[this]
 ·refine AA (ι:=Nat) (fun k=>AS [(0,AD (tcs a)),(1,AD (tcs b)),(5,AI k)] []) (fun k=>k<=a.length/\∀i,i<k->a.getD i default=b.getD i default) (fun k=>a.length-k) 0 ⟨AeV _,fun i hi=>absurd hi (AeQ _)⟩ ?_ ?_
  ·exact B4 ⟨rfl,rfl,rfl,trivial⟩ trivial rfl
  ·rintro k ⟨hk,hall⟩
   repeat'(first|refine sC ?_|refine Aj rfl (by first|exact tt0|omega) ?_|(refine gI ?_;first|refine Aq (gk rfl) rfl rfl rfl rfl rfl (by omega) rfl ?_)|(refine gB ?_;first|refine Fu (gk rfl) rfl rfl rfl rfl rfl rfl rfl ?_)|refine Ap (by kernel_rfl) ?_|(refine gD ?_;first|(refine Ay rfl ?_ ?_<;>intro h<;>have hq:=h<;>(try simp only[hqs] at hq)))|fail)
   ·refine As Ab rfl ?_;have:a≠b:=fun e=>hq (by rw[e])
    simp[this]
   ·refine⟨k+1,⟨by omega,fun i hi=>?_⟩,by omega,B4 ⟨rfl,rfl,rfl,trivial⟩ trivial rfl⟩;by_cases hik:i<k
    ·exact hall i hik
    ·have:i=k:=by omega
     subst this;exact AcC hq
   ·refine As Ab rfl ?_;have:a=b:=Go.Sx.ED (by omega) fun i hi=>hall i (by omega)
    simp[this]
def Zd (a b:Tb):Bool:=decide (a.node=b.node/\a.len=b.len/\a.cells=b.cells)
theorem Ge (a b:Tb):FnS Tryz.prog 82 [tbA a,tbA b] [] (AB (Zd a b)) []:=by
 refine fb Tryz.func82 (by kernel_rfl) rfl Tryz.ntmps82 Tryz.results82 rfl rfl rfl rfl fun E hS=>?_
 repeat'(first|refine sB ?_|refine Aj rfl (by exact tt0) ?_|(refine gC ?_;first|refine Aa (KO _ _) (gk rfl) rfl rfl rfl (by rfl) rfl (by rfl) rfl ?_)|(refine Ax rfl ?_ ?_<;>intro h<;>have hq:=h<;>(try simp only[hqs] at hq))|fail)
 all_goals(refine As Ab rfl ?_;unfold Zd;simp_all)
def Adj (n:Int):Bool:=decide (n<=40\/512<n/\n<=516)
theorem U1 (n:Int):FnS Tryz.prog 58 [AI n] [] (AB (Adj n)) []:=by
 refine fb Tryz.func58 (by kernel_rfl) rfl Tryz.ntmps58 Tryz.results58 rfl rfl rfl rfl fun E hS=>?_
 repeat'(first|refine sB ?_|refine Aj rfl (by exact tt0) ?_|(refine Ax rfl ?_ ?_<;>intro h<;>have hq:=h<;>(try simp only[hqs] at hq))|fail)
 all_goals(refine As Ab rfl ?_;unfold Adj;simp_all)
 all_goals omega
def Adi (t:Tb):Bool:=Adj t.cells.length&&decide (t.len<=64\/512<t.len)
theorem UY (t:Tb):FnS Tryz.prog 27 [tbA t] [] (AB (Adi t)) []:=by
 refine fb Tryz.func27 (by kernel_rfl) rfl Tryz.ntmps27 Tryz.results27 rfl rfl rfl rfl fun E hS=>?_
 repeat'(first|refine sB ?_|refine Aj rfl (by exact tt0) ?_|(refine gC ?_;first|refine Aa (U1 _) (gk rfl) rfl rfl rfl (by rfl) rfl (by rfl) rfl ?_)|(refine Ax rfl ?_ ?_<;>intro h<;>have hq:=h<;>(try simp only[hqs] at hq))|fail)
 all_goals(refine As Ab rfl ?_;unfold Adi;simp_all)
 all_goals omega
theorem Cm {t:Tb} (h:Ci t=0):t.cells.length<=512/\1<=t.len/\t.len<=512/\D7 t.node=true:=by
 unfold Ci at h
 split at h
 ·cases h
 ·split at h
  ·cases h
  ·rename_i h1 h2;simp only[not_or] at h1;refine⟨by omega,by omega,by omega,by simpa using h1.1⟩
def Qk (l:List TC) (t:Int):Nat:=bs (fun i=>decide (Ha (l.getD i default).slot t<0)) 0 l.length
def US (l:List TC) (t:Int):Bool:=decide (Qk l t<l.length)&&decide (Ha (l.getD (Qk l t) default).slot t=0)
abbrev Mu:List DV->DV->Prop:=fun ds r=>∃(x:TC) (t:Int),ds=[.agg x.enc,.d (.int .i64 t)]/\r=.d (.int .i64 (Ha x.slot t))
theorem L0 (l:List TC) (t:Int) (hl:l.length<=1000000):FnS Tryz.prog 169 [AD (tcs l),AI t,.clo Mu] [] (.tup [AI (Qk l t),AB (US l t)]) []:=by
 refine fb Tryz.func169 (by kernel_rfl) rfl Tryz.ntmps169 Tryz.results169 rfl rfl rfl rfl fun E hS=>?_
 repeat'(first|refine sC ?_|refine Aj rfl (by exact tt0) ?_|fail)
 refine AA (ι:=Nat×Nat) (fun p=>AS [(0,AD (tcs l)),(1,AI t),(2,.clo Mu),(8,AI l.length),(9,AI p.1),(10,AI p.2)] [])
  (fun p=>p.1<=p.2/\p.2<=l.length/\bs (fun i=>decide (Ha (l.getD i default).slot t<0)) p.1 p.2=Qk l t) (fun p=>p.2-p.1) (0,l.length) ⟨AeV _,AeU _,rfl⟩ ?_ ?_
 ·exact B4 ⟨rfl,rfl,rfl,rfl,rfl,rfl,trivial⟩ trivial rfl
 ·rintro⟨i,j⟩ ⟨h1,h2,h3⟩;dsimp only at h1 h2 h3 ⊢
  repeat'(first|refine sC ?_|refine Aj rfl (by first|exact tt0|omega) ?_|(refine gC ?_;first|refine EV (⟨_,_,rfl,rfl⟩) (gk rfl) rfl rfl rfl rfl ?_)|(refine gI ?_;first|refine Aq (gk rfl) rfl rfl rfl rfl rfl (by omega) rfl ?_|refine D4 (gk rfl) rfl rfl rfl rfl (by omega) rfl ?_)|(refine gV ?_;first|refine Ba (gk rfl) rfl ⟨_,rfl⟩ rfl (by first|exact wrap_i64 (by omega)|exact wrap_u64 (by omega)) rfl ?_)|(refine gB ?_;first|refine MZ (m:=1) (gk rfl) rfl rfl rfl (by decide) rfl ?_)|(refine Ax rfl ?_ ?_<;>intro h<;>have hq:=h<;>(try simp only[hqs] at hq))|(refine gD ?_;first|(refine Ay rfl ?_ ?_<;>intro h<;>have hq:=h<;>(try simp only[hqs] at hq)))|fail)
  ·have e:(((i:Int)+(j:Int))/2^1).toNat=(i+j)/2:=by omega
   rw[e] at hq;refine⟨((i+j)/2+1,j),⟨by dsimp only;omega,h2,?_⟩,by dsimp only;omega,B4 ⟨rfl,rfl,rfl,rfl,XB ?_ rfl,rfl,trivial⟩ trivial rfl⟩
   ·rw[<-h3]
    conv=>rhs;rw[bs,AeT (by omega)]
    rw[AeT];exact Aed hq
   ·congr 1<;>omega
  ·have e:(((i:Int)+(j:Int))/2^1).toNat=(i+j)/2:=by omega
   rw[e] at hq;refine⟨(i,(i+j)/2),⟨by dsimp only;omega,by dsimp only;omega,?_⟩,by dsimp only;omega,B4 ⟨rfl,rfl,rfl,rfl,rfl,XB ?_ rfl,trivial⟩ trivial rfl⟩
   ·rw[<-h3]
    conv=>rhs;rw[bs,AeT (by omega)]
    rw[AeS];rw[Aef];exact Int.not_lt.2 hq
   ·congr 1<;>omega
  all_goals(have e0:Qk l t=i:=by
             rw[<-h3,bs,AeS (by omega)])
  all_goals refine Cx Ab rfl rfl (by rw[e0]) ?_
  all_goals simp_all [US]<;>omega
theorem Xu (c:TC) (n:Int):FnS Tryz.prog 170 [tcA c,AI n] [] (AI (Ha c.slot n)) []:=by
 refine fb Tryz.func170 (by kernel_rfl) rfl Tryz.ntmps170 Tryz.results170 rfl rfl rfl rfl fun E hS=>?_
 repeat'(first|refine sB ?_|refine Aj rfl (by exact tt0) ?_|(refine gC ?_;first|refine Aa (GP _ _) (gk rfl) rfl rfl rfl (by rfl) rfl (by rfl) rfl ?_)|fail)
 all_goals exact AG Ab rfl rfl
theorem Aab {σ:St} {L:List Nat}:AR Tryz.prog σ L (.fnc 170 []) (.clo Mu):=
 .fnc .nil (enters_of Tryz.func170 (by kernel_rfl) rfl) (by rintro _ _ ⟨x,t,rfl,rfl⟩;exact⟨rfl,Xu x t⟩)
theorem IX {n:Nat} {f:Nat->Int} (h:Dc n f=0):∀i,i<n->f i=0:=by
 intro i hi;unfold Dc at h;cases hf:(List.range n).find? (fun i=>f i != 0) with
 |none=>
  have:=List.find?_eq_none.1 hf i (AeL.2 hi);simpa using this
 |some k=>
  rw[hf] at h;have:=List.find?_some hf;simp only[Option.elim] at h;rw[h] at this;simp at this
theorem Vq {t:Tb} (h:Ci t=0):∀i,i<t.cells.length->Oj (t.cells.getD i default) t.node t.len=0/\(0<i->KW (t.cells.getD (i-1) default) (t.cells.getD i default)=true):=by
 have hl:=Cm h;unfold Ci at h
 split at h
 ·cases h
 ·split at h
  ·cases h
  ·intro i hi;have:=IX h i hi;unfold KN at this
   split at this
   ·omega
   ·rename_i h1;refine⟨by omega,fun h0=>?_⟩
    split at this
    ·cases this
    ·rename_i h2;have h3:¬0<=Vn (t.cells.getD (i-1) default) (t.cells.getD i default):=fun hc=>h2 ⟨h0,hc⟩
     rw[WO] at h3;simpa using h3
theorem HU {a b:TC}:KW a b=true↔a.slot<b.slot\/(a.slot=b.slot/\a.kind<b.kind):=by
 simp[KW]
theorem PJ {a b c:TC} (h:KW a b=true) (k:KW b c=true):KW a c=true:=by
 rw[HU] at *;omega
def Srt (l:List TC):Prop:=∀i j,i<j->j<l.length->KW (l.getD i default) (l.getD j default)=true
theorem Abf {l:List TC} (h:∀i,i<l.length->0<i->KW (l.getD (i-1) default) (l.getD i default)=true):Srt l:=by
 intro i j hij
 induction j with
 |zero=>omega
 |succ j ih=>
  intro hj;have h1:=h (j+1) hj (by omega);rw[Nat.add_sub_cancel] at h1;rcases AeW i j with h2|h2
  ·exact PJ (ih h2 (by omega)) h1
  ·rw[show i=j by omega];exact h1
theorem LC {t:Tb} (h:Ci t=0):Srt t.cells:=Abf fun i hi h0=>(Vq h i hi).2 h0
theorem EJ {a b:Int}:Ha a b<0↔a<b:=by
 unfold Ha;split<;>(try split)<;>omega
theorem Kt {a b:Int}:Ha a b=0↔a=b:=by
 unfold Ha;split<;>(try split)<;>omega
theorem Xs {l:List TC} (h:Srt l) (s:Int):Fl l (fun c=>decide (c.slot=s))=if Qk l s<l.length/\(l.getD (Qk l s) default).slot=s then some (Qk l s) else none:=by
 have hb:=Vw (f:=fun i=>decide (Ha (l.getD i default).slot s<0)) (n:=l.length) (fun a b hab hb hf=>by
  simp only[Aef,EJ] at hf ⊢;have:=HU.1 (h a b hab hb);omega)
 change Qk l s<=_/\(∀a,a<Qk l s->_)/\∀a,Qk l s<=a->_ at hb;obtain⟨h1,h2,h3⟩:=hb;simp only[Aef,Aeg,EJ] at h2 h3
 split
 ·rename_i hc;exact Er (fun i hi=>Aee (by have:=h2 i hi;omega)) hc.1 (Aed hc.2)
 ·rename_i hc;refine DI fun i hi=>?_
  simp only[Aeg];intro he;rcases AeW i (Qk l s) with hlt|hge
  ·have:=h2 i hlt;omega
  ·refine hc ⟨by omega,?_⟩;have h5:=h3 (Qk l s) (AeU _) (by omega);rcases AeW (Qk l s) i with h6|h6
   ·have:=HU.1 (h _ _ h6 hi);omega
   ·rw[show Qk l s=i by omega];exact he
def noC:TC:=⟨0,0,0,false,0,0⟩
def atM (t:Tb) (slot:Int):TC×Bool:=if Ci t≠0\/slot<0 then(noC,false) else match Fl t.cells (fun c=>decide (c.slot=slot % t.len)) with
 |some i=>(t.cells.getD i default,true)
 |none=>(noC,false)
set_option maxHeartbeats 1000000 in
theorem MI (t:Tb) (slot:Int):FnS Tryz.prog 126 [tbA t,AI slot] [] (.tup [tcA (atM t slot).1,AB (atM t slot).2]) []:=by
 have hck:=DT t;refine fb Tryz.func126 (by kernel_rfl) rfl Tryz.ntmps126 Tryz.results126 rfl rfl rfl rfl fun E hS=>?_
 by_cases hc:Ci t=0
 ·rw[hc] at hck;have hl:=Cm hc;by_cases hs:slot<0
  ·have e:atM t slot=(noC,false):=by rw[atM,AeT (.inr hs)]
   rw[e]
   repeat'(first|refine sB ?_|refine Aj rfl (by first|exact tt0|omega) ?_|(refine gC ?_;first|refine Aa (hck) (gk rfl) rfl rfl rfl (by rfl) rfl (by rfl) rfl ?_)|(refine gD ?_;first|(refine Ay rfl ?_ ?_<;>intro h<;>have hq:=h<;>(try simp only[hqs] at hq)))|fail)
   all_goals first
    |(exfalso;omega)
    |exact AL Ab rfl rfl rfl rfl rfl rfl rfl
  ·have e:atM t slot=match Fl t.cells (fun c=>decide (c.slot=slot % t.len)) with
     |some i=>(t.cells.getD i default,true)
     |none=>(noC,false):=by rw[atM,AeS (by omega)]
   rw[Xs (LC hc)] at e
   repeat'(first|refine sB ?_|refine Aj rfl (by first|exact tt0|omega) ?_|(refine gC ?_;first|refine Aa (hck) (gk rfl) rfl rfl rfl (by rfl) rfl (by rfl) rfl ?_|refine AJ [] (L0 t.cells _ (by omega)) (gk rfl) rfl (by(repeat'(first|exact .nil|refine .cons ?_ ?_|exact .of0 (.c .d)|exact(Aab)))<;>fail) (by rfl) rfl (by rfl) rfl (by rfl) rfl ?_)|(refine gI ?_;first|refine Aq (gk rfl) rfl rfl rfl rfl rfl (by omega) rfl ?_)|(refine Ax rfl ?_ ?_<;>intro h<;>have hq:=h<;>(try simp only[hqs] at hq))|refine Ap (by kernel_rfl) ?_|(refine gD ?_;first|refine Ag rfl ?_|(refine Ay rfl ?_ ?_<;>intro h<;>have hq:=h<;>(try simp only[hqs] at hq)))|fail)
   all_goals first
    |(exfalso;omega)
    |skip
   ·rw[AeT ⟨by omega,hq⟩] at e;rw[e];exact AL Ab rfl rfl rfl rfl rfl rfl rfl
   all_goals
    rw[AeS (by omega)] at e;rw[e];exact AL Ab rfl rfl rfl rfl rfl rfl rfl
 ·have e:atM t slot=(noC,false):=by rw[atM,AeT (.inl hc)]
  rw[e]
  repeat'(first|refine sB ?_|refine Aj rfl (by first|exact tt0|omega) ?_|(refine gC ?_;first|refine Aa (hck) (gk rfl) rfl rfl rfl (by rfl) rfl (by rfl) rfl ?_)|(refine Ax rfl ?_ ?_<;>intro h<;>have hq:=h<;>(try simp only[hqs] at hq))|(refine gD ?_;first|refine Ah rfl ?_|(refine Ay rfl ?_ ?_<;>intro h<;>have hq:=h<;>(try simp only[hqs] at hq)))|fail)
  all_goals first
   |(exfalso;omega)
   |exact AL Ab rfl rfl rfl rfl rfl rfl rfl
end Go.Proofs.T
end
section
namespace Go.Proofs
open Go Go.Sx Go.Proofs.T Go.Proofs.Q
set_option maxRecDepth 4000
attribute [local irreducible] VR VC thenQ blockQ retL
structure Hd where
 Ca:Int
 frame:Int
 til:Int
 data:ByteArray
 AQ:List Int
 deriving DecidableEq,Inhabited
def Hd.enc (x:Hd):List D:=[.int .i64 x.Ca,.int .i64 x.frame,.int .i64 x.til,.str x.data,ints x.AQ]
def Hd.cs (x:Hd):List C:=[.d (.int .i64 x.Ca),.d (.int .i64 x.frame),.d (.int .i64 x.til),.d (.str x.data),.d (ints x.AQ)]
abbrev hdA (x:Hd):AV:=.agg x.cs
abbrev hds (l:List Hd):D:=IS Hd.enc 5 l
structure Sn where
 node:Int
 seq:Int
 deriving DecidableEq,Inhabited
def Sn.enc (x:Sn):List D:=[.int .i64 x.node,.int .i64 x.seq]
def Sn.cs (x:Sn):List C:=[.d (.int .i64 x.node),.d (.int .i64 x.seq)]
abbrev snA (x:Sn):AV:=.agg x.cs
abbrev sns (l:List Sn):D:=IS Sn.enc 2 l
theorem AcX {x y:Sn} (h:[SV.int IntKind.i64 x.seq,SV.int IntKind.i64 x.node].reverse=[SV.int IntKind.i64 y.seq,SV.int IntKind.i64 y.node].reverse):x=y:=by
 have h:=List.reverse_inj.1 h;cases x;cases y;simp only[List.cons.injEq,SV.int.injEq,SV.bool.injEq,SV.str.injEq,true_and,and_true] at h;obtain⟨rfl,rfl⟩:=h
 rfl
theorem AcW {x y:Sn} (h:x=y):[SV.int IntKind.i64 x.seq,SV.int IntKind.i64 x.node].reverse=[SV.int IntKind.i64 y.seq,SV.int IntKind.i64 y.node].reverse:=by rw[h]
instance:Ij Sn.enc:=⟨fun _=>rfl⟩
structure Fr where
 kind:Int
 source:Int
 target:Int
 list:Int
 seq:Int
 Ca:Int
 number:Int
 err:Int
 slot:Int
 rank:Int
 epoch:Int
 data:ByteArray
 deriving DecidableEq,Inhabited
def Fr.enc (x:Fr):List D:=[.int .i64 x.kind,.int .i64 x.source,.int .i64 x.target,.int .i64 x.list,.int .i64 x.seq,.int .i64 x.Ca,.int .i64 x.number,.int .i64 x.err,.int .i64 x.slot,.int .i64 x.rank,.int .i64 x.epoch,.str x.data]
def Fr.cs (x:Fr):List C:=[.d (.int .i64 x.kind),.d (.int .i64 x.source),.d (.int .i64 x.target),.d (.int .i64 x.list),.d (.int .i64 x.seq),.d (.int .i64 x.Ca),.d (.int .i64 x.number),.d (.int .i64 x.err),.d (.int .i64 x.slot),.d (.int .i64 x.rank),.d (.int .i64 x.epoch),.d (.str x.data)]
abbrev frA (x:Fr):AV:=.agg x.cs
abbrev frs (l:List Fr):D:=IS Fr.enc 12 l
theorem Adf {x y:Fr} (h:[SV.str x.data,SV.int IntKind.i64 x.epoch,SV.int IntKind.i64 x.rank,SV.int IntKind.i64 x.slot,SV.int IntKind.i64 x.err,SV.int IntKind.i64 x.number,SV.int IntKind.i64 x.Ca,SV.int IntKind.i64 x.seq,SV.int IntKind.i64 x.list,SV.int IntKind.i64 x.target,SV.int IntKind.i64 x.source,SV.int IntKind.i64 x.kind].reverse=[SV.str y.data,SV.int IntKind.i64 y.epoch,SV.int IntKind.i64 y.rank,SV.int IntKind.i64 y.slot,SV.int IntKind.i64 y.err,SV.int IntKind.i64 y.number,SV.int IntKind.i64 y.Ca,SV.int IntKind.i64 y.seq,SV.int IntKind.i64 y.list,SV.int IntKind.i64 y.target,SV.int IntKind.i64 y.source,SV.int IntKind.i64 y.kind].reverse):x=y:=by
 have h:=List.reverse_inj.1 h;cases x;cases y;simp only[List.cons.injEq,SV.int.injEq,SV.bool.injEq,SV.str.injEq,true_and,and_true] at h;obtain⟨rfl,rfl,rfl,rfl,rfl,rfl,rfl,rfl,rfl,rfl,rfl,rfl⟩:=h
 rfl
theorem Ade {x y:Fr} (h:x=y):[SV.str x.data,SV.int IntKind.i64 x.epoch,SV.int IntKind.i64 x.rank,SV.int IntKind.i64 x.slot,SV.int IntKind.i64 x.err,SV.int IntKind.i64 x.number,SV.int IntKind.i64 x.Ca,SV.int IntKind.i64 x.seq,SV.int IntKind.i64 x.list,SV.int IntKind.i64 x.target,SV.int IntKind.i64 x.source,SV.int IntKind.i64 x.kind].reverse=[SV.str y.data,SV.int IntKind.i64 y.epoch,SV.int IntKind.i64 y.rank,SV.int IntKind.i64 y.slot,SV.int IntKind.i64 y.err,SV.int IntKind.i64 y.number,SV.int IntKind.i64 y.Ca,SV.int IntKind.i64 y.seq,SV.int IntKind.i64 y.list,SV.int IntKind.i64 y.target,SV.int IntKind.i64 y.source,SV.int IntKind.i64 y.kind].reverse:=by rw[h]
instance:Ij Fr.enc:=⟨fun _=>rfl⟩
structure Ac where
 kind:Int
 offset:Int
 B1:Int
 source:Int
 target:Int
 list:Int
 seq:Int
 Ca:Int
 number:Int
 err:Int
 slot:Int
 rank:Int
 epoch:Int
 data:ByteArray
 deriving DecidableEq,Inhabited
def Ac.enc (x:Ac):List D:=[.int .i64 x.kind,.int .i64 x.offset,.int .i64 x.B1,.int .i64 x.source,.int .i64 x.target,.int .i64 x.list,.int .i64 x.seq,.int .i64 x.Ca,.int .i64 x.number,.int .i64 x.err,.int .i64 x.slot,.int .i64 x.rank,.int .i64 x.epoch,.str x.data]
def Ac.cs (x:Ac):List C:=[.d (.int .i64 x.kind),.d (.int .i64 x.offset),.d (.int .i64 x.B1),.d (.int .i64 x.source),.d (.int .i64 x.target),.d (.int .i64 x.list),.d (.int .i64 x.seq),.d (.int .i64 x.Ca),.d (.int .i64 x.number),.d (.int .i64 x.err),.d (.int .i64 x.slot),.d (.int .i64 x.rank),.d (.int .i64 x.epoch),.d (.str x.data)]
abbrev acA (x:Ac):AV:=.agg x.cs
abbrev acs (l:List Ac):D:=IS Ac.enc 14 l
instance:Ij Ac.enc:=⟨fun _=>rfl⟩
structure Up where
 some:Bool
 new:Bool
 B1:Int
 source:Int
 target:Int
 list:Int
 seq:Int
 Ca:Int
 number:Int
 err:Int
 slot:Int
 rank:Int
 epoch:Int
 data:ByteArray
 deriving DecidableEq,Inhabited
def Up.enc (x:Up):List D:=[.bool x.some,.bool x.new,.int .i64 x.B1,.int .i64 x.source,.int .i64 x.target,.int .i64 x.list,.int .i64 x.seq,.int .i64 x.Ca,.int .i64 x.number,.int .i64 x.err,.int .i64 x.slot,.int .i64 x.rank,.int .i64 x.epoch,.str x.data]
def Up.cs (x:Up):List C:=[.d (.bool x.some),.d (.bool x.new),.d (.int .i64 x.B1),.d (.int .i64 x.source),.d (.int .i64 x.target),.d (.int .i64 x.list),.d (.int .i64 x.seq),.d (.int .i64 x.Ca),.d (.int .i64 x.number),.d (.int .i64 x.err),.d (.int .i64 x.slot),.d (.int .i64 x.rank),.d (.int .i64 x.epoch),.d (.str x.data)]
abbrev upA (x:Up):AV:=.agg x.cs
abbrev ups (l:List Up):D:=IS Up.enc 14 l
instance:Ij Up.enc:=⟨fun _=>rfl⟩
structure Rs where
 AQ:Bool
 heard:Bool
 B1:Int
 source:Int
 target:Int
 list:Int
 seq:Int
 Ca:Int
 number:Int
 err:Int
 slot:Int
 rank:Int
 epoch:Int
 data:ByteArray
 error:Int
 deriving DecidableEq,Inhabited
def Rs.enc (x:Rs):List D:=[.bool x.AQ,.bool x.heard,.int .i64 x.B1,.int .i64 x.source,.int .i64 x.target,.int .i64 x.list,.int .i64 x.seq,.int .i64 x.Ca,.int .i64 x.number,.int .i64 x.err,.int .i64 x.slot,.int .i64 x.rank,.int .i64 x.epoch,.str x.data,.int .i64 x.error]
def Rs.cs (x:Rs):List C:=[.d (.bool x.AQ),.d (.bool x.heard),.d (.int .i64 x.B1),.d (.int .i64 x.source),.d (.int .i64 x.target),.d (.int .i64 x.list),.d (.int .i64 x.seq),.d (.int .i64 x.Ca),.d (.int .i64 x.number),.d (.int .i64 x.err),.d (.int .i64 x.slot),.d (.int .i64 x.rank),.d (.int .i64 x.epoch),.d (.str x.data),.d (.int .i64 x.error)]
abbrev rsA (x:Rs):AV:=.agg x.cs
abbrev rss (l:List Rs):D:=IS Rs.enc 15 l
instance:Ij Rs.enc:=⟨fun _=>rfl⟩
structure Sta where
 tb:Tb
 qu:Qu
 held:List Hd
 seen:List Sn
 list:Int
 seq:Int
 Bm:Int
 tries:Int
 back:Int
 wait:Int
 CP:Int
 deriving Inhabited
def Sta.cs (s:Sta):List C:=[.d (.int .i64 s.tb.node),.d (.int .i64 s.tb.len),.d (tcs s.tb.cells),.d (.int .i64 s.qu.Bk),.d (pks s.qu.Af),.d (hds s.held),.d (sns s.seen),
 .d (.int .i64 s.list),.d (.int .i64 s.seq),.d (.int .i64 s.Bm),.d (.int .i64 s.tries),.d (.int .i64 s.back),.d (.int .i64 s.wait),.d (.int .i64 s.CP)]
def Sta.enc (s:Sta):List D:=[.int .i64 s.tb.node,.int .i64 s.tb.len,tcs s.tb.cells,.int .i64 s.qu.Bk,pks s.qu.Af,hds s.held,sns s.seen,
 .int .i64 s.list,.int .i64 s.seq,.int .i64 s.Bm,.int .i64 s.tries,.int .i64 s.back,.int .i64 s.wait,.int .i64 s.CP]
abbrev stA (s:Sta):AV:=.agg s.cs
theorem BC (n m:Int):FnS Tryz.prog 63 [AI n,AI m] [] (AB (decide (0<=n/\n<=m))) []:=by
 refine fb Tryz.func63 (by kernel_rfl) rfl Tryz.ntmps63 Tryz.results63 rfl rfl rfl rfl fun E hS=>?_
 repeat'(first|refine sB ?_|refine Aj rfl (by exact tt0) ?_|(refine Ax rfl ?_ ?_<;>intro h<;>have hq:=h<;>(try simp only[hqs] at hq))|fail)
 ·refine As Ab rfl ?_;exact decide_eq_decide.2 (by omega)
 ·refine As Ab rfl ?_;exact Aee (by omega)
def AdS (l:List Int) (i:Nat):Bool:=decide (l.getD i default<0\/31<l.getD i default\/(0<i/\l.getD i default<=l.getD (i-1) default))
def EA (l:List Int):Bool:=!((List.range l.length).any (AdS l))
theorem Pt (l:List Int):FnS Tryz.prog 213 [AD (ints l)] [] (AB (EA l)) []:=by
 refine fb Tryz.func213 (by kernel_rfl) rfl Tryz.ntmps213 Tryz.results213 rfl rfl rfl rfl fun E hS=>?_
 refine BP (t:=0) rfl fun hb=>?_
 repeat'(first|refine sC ?_|refine Aj rfl (by exact tt0) ?_|fail)
 refine AA (ι:=Nat) (fun k=>AS [(0,AD (ints l)),(5,AD (ints l)),(6,AI l.length),(7,AI k)] []) (fun k=>k<=l.length/\∀i,i<k->(AdS l) i=false) (fun k=>l.length-k) 0 ⟨AeV _,fun i hi=>absurd hi (AeQ _)⟩ ?_ ?_
 ·refine lg ?_ ?_ rfl (by rfl)
  all_goals repeat'(first|exact tt0|refine⟨⟨_,rfl,?_⟩,?_⟩|exact .c .d|fail)
 ·intro k hk
  repeat'(first|refine sC ?_|refine Aj rfl (by first|exact tt0|omega) ?_|(refine gC ?_;first|refine Aa (BC _ _) (gk rfl) rfl rfl rfl (by rfl) rfl (by rfl) rfl ?_)|(refine gI ?_;first|refine Aq (gk rfl) rfl rfl rfl rfl rfl (by omega) rfl ?_|refine Dm (gk rfl) rfl rfl rfl rfl rfl (by omega) rfl ?_)|(refine Ax rfl ?_ ?_<;>intro h<;>have hq:=h<;>(try simp only[hqs] at hq))|(refine gD ?_;first|refine Ah rfl ?_|refine Ag rfl ?_|(refine Ay rfl ?_ ?_<;>intro h<;>have hq:=h<;>(try simp only[hqs] at hq)))|fail)
  all_goals first
   |(refine As Ab rfl ?_
     by_cases hlt:k<l.length
     ·first
      |(exfalso;omega)
      |(rw[EA,MJ (k:=k) hlt ?_]
        ·rfl
        ·refine Aed ?_
         first
         |omega
         |(omega))
     ·first
      |(exfalso;omega)
      |(have hk':k=l.length:=by omega
        subst hk';rw[EA,EL hk.2]
        rfl))
   |(refine⟨k+1,⟨by omega,fun i hi=>?_⟩,by omega,?_⟩
     ·by_cases hik:i<k
      ·exact hk.2 i hik
      ·have:i=k:=by omega
       subst this;refine Aee ?_
       first
       |omega
       |(omega)
     ·refine lg ?_ ?_ rfl (by rfl)
      all_goals repeat'(first|exact tt0|refine⟨⟨_,rfl,?_⟩,?_⟩|exact .c .d|fail)
     )
   |trace_state
def FD (h:Hd):Bool:=decide (0<=h.Ca/\h.Ca<=255/\0<=h.frame/\h.frame<=65535/\0<=h.til/\h.til<=109951162)&&EA h.AQ
theorem Pw (h:Hd):FnS Tryz.prog 159 [hdA h] [] (AB (FD h)) []:=by
 refine fb Tryz.func159 (by kernel_rfl) rfl Tryz.ntmps159 Tryz.results159 rfl rfl rfl rfl fun E hS=>?_
 repeat'(first|refine sB ?_|refine Aj rfl (by exact tt0) ?_|(refine gC ?_;first|refine Aa (BC _ _) (gk rfl) rfl rfl rfl (by rfl) rfl (by rfl) rfl ?_|refine Aa (Pt _) (gk rfl) rfl rfl rfl (by rfl) rfl (by rfl) rfl ?_)|(refine Ax rfl ?_ ?_<;>intro h<;>have hq:=h<;>(try simp only[hqs] at hq))|fail)
 all_goals(refine As Ab rfl ?_;unfold FD)
 ·rw[Aed (by omega)];rfl
 all_goals(rw[Aee (by omega)];rfl)
def AbX (l:List Hd) (i:Nat):Bool:=decide (FD (l.getD i default)=false\/100<(l.getD i default).data.size\/(0<i/\(l.getD i default).Ca<=(l.getD (i-1) default).Ca))
def Gm (l:List Hd):Bool:=!((List.range l.length).any (AbX l))&&decide ((l.length:Int)<=16)
theorem Kd (l:List Hd):FnS Tryz.prog 113 [AD (hds l)] [] (AB (Gm l)) []:=by
 refine fb Tryz.func113 (by kernel_rfl) rfl Tryz.ntmps113 Tryz.results113 rfl rfl rfl rfl fun E hS=>?_
 refine BP (t:=0) rfl fun hb=>?_
 repeat'(first|refine sC ?_|refine Aj rfl (by exact tt0) ?_|fail)
 refine AA (ι:=Nat) (fun k=>AS [(0,AD (hds l)),(5,AD (hds l)),(6,AI l.length),(7,AI k)] []) (fun k=>k<=l.length/\∀i,i<k->(AbX l) i=false) (fun k=>l.length-k) 0 ⟨AeV _,fun i hi=>absurd hi (AeQ _)⟩ ?_ ?_
 ·refine lg ?_ ?_ rfl (by rfl)
  all_goals repeat'(first|exact tt0|refine⟨⟨_,rfl,?_⟩,?_⟩|exact .c .d|fail)
 ·intro k hk
  repeat'(first|refine sC ?_|refine Aj rfl (by first|exact tt0|omega) ?_|(refine gC ?_;first|refine Aa (Pw _) (gk rfl) rfl rfl rfl (by rfl) rfl (by rfl) rfl ?_)|(refine gI ?_;first|refine Aq (gk rfl) rfl rfl rfl rfl rfl (by omega) rfl ?_|refine Dm (gk rfl) rfl rfl rfl rfl rfl (by omega) rfl ?_)|(refine Ax rfl ?_ ?_<;>intro h<;>have hq:=h<;>(try simp only[hqs] at hq))|refine Ap (by kernel_rfl) ?_|(refine gD ?_;first|refine Ah rfl ?_|refine Ag rfl ?_|(refine Ay rfl ?_ ?_<;>intro h<;>have hq:=h<;>(try simp only[hqs] at hq)))|fail)
  all_goals first
   |(refine As Ab rfl ?_
     by_cases hlt:k<l.length
     ·first
      |(exfalso;omega)
      |(rw[Gm,MJ (k:=k) hlt ?_]
        ·rfl
        ·refine Aed ?_
         first
         |omega
         |(first|(refine .inl ?_;simp_all;done)|(refine .inr ?_;omega)|(simp_all;done)|(simp_all;omega)))
     ·first
      |(exfalso;omega)
      |(have hk':k=l.length:=by omega
        subst hk';rw[Gm,EL hk.2]
        rfl))
   |(refine⟨k+1,⟨by omega,fun i hi=>?_⟩,by omega,?_⟩
     ·by_cases hik:i<k
      ·exact hk.2 i hik
      ·have:i=k:=by omega
       subst this;refine Aee ?_
       first
       |omega
       |(first|(refine .inl ?_;simp_all;done)|(refine .inr ?_;omega)|(simp_all;done)|(simp_all;omega))
     ·refine lg ?_ ?_ rfl (by rfl)
      all_goals repeat'(first|exact tt0|refine⟨⟨_,rfl,?_⟩,?_⟩|exact .c .d|fail)
     )
   |trace_state
def AbW (l:List Sn) (i:Nat):Bool:=decide (¬(0<=(l.getD i default).node/\(l.getD i default).node<=31)\/¬(0<=(l.getD i default).seq/\(l.getD i default).seq<=255)\/(0<i/\(l.getD i default).node<=(l.getD (i-1) default).node))
def Hk (l:List Sn):Bool:=!((List.range l.length).any (AbW l))
theorem JN (l:List Sn):FnS Tryz.prog 114 [AD (sns l)] [] (AB (Hk l)) []:=by
 refine fb Tryz.func114 (by kernel_rfl) rfl Tryz.ntmps114 Tryz.results114 rfl rfl rfl rfl fun E hS=>?_
 refine BP (t:=0) rfl fun hb=>?_
 repeat'(first|refine sC ?_|refine Aj rfl (by exact tt0) ?_|fail)
 refine AA (ι:=Nat) (fun k=>AS [(0,AD (sns l)),(5,AD (sns l)),(6,AI l.length),(7,AI k)] []) (fun k=>k<=l.length/\∀i,i<k->(AbW l) i=false) (fun k=>l.length-k) 0 ⟨AeV _,fun i hi=>absurd hi (AeQ _)⟩ ?_ ?_
 ·refine lg ?_ ?_ rfl (by rfl)
  all_goals repeat'(first|exact tt0|refine⟨⟨_,rfl,?_⟩,?_⟩|exact .c .d|fail)
 ·intro k hk
  repeat'(first|refine sC ?_|refine Aj rfl (by first|exact tt0|omega) ?_|(refine gC ?_;first|refine Aa (BC _ _) (gk rfl) rfl rfl rfl (by rfl) rfl (by rfl) rfl ?_)|(refine gI ?_;first|refine Aq (gk rfl) rfl rfl rfl rfl rfl (by omega) rfl ?_|refine Dm (gk rfl) rfl rfl rfl rfl rfl (by omega) rfl ?_)|(refine Ax rfl ?_ ?_<;>intro h<;>have hq:=h<;>(try simp only[hqs] at hq))|refine Ap (by kernel_rfl) ?_|(refine gD ?_;first|refine Ah rfl ?_|refine Ag rfl ?_|(refine Ay rfl ?_ ?_<;>intro h<;>have hq:=h<;>(try simp only[hqs] at hq)))|fail)
  all_goals first
   |(refine As Ab rfl ?_
     by_cases hlt:k<l.length
     ·first
      |(exfalso;omega)
      |(rw[Hk,MJ (k:=k) hlt ?_]
        ·rfl
        ·refine Aed ?_
         first
         |omega
         |(omega))
     ·first
      |(exfalso;omega)
      |(have hk':k=l.length:=by omega
        subst hk';rw[Hk,EL hk.2]
        rfl))
   |(refine⟨k+1,⟨by omega,fun i hi=>?_⟩,by omega,?_⟩
     ·by_cases hik:i<k
      ·exact hk.2 i hik
      ·have:i=k:=by omega
       subst this;refine Aee ?_
       first
       |omega
       |(omega)
     ·refine lg ?_ ?_ rfl (by rfl)
      all_goals repeat'(first|exact tt0|refine⟨⟨_,rfl,?_⟩,?_⟩|exact .c .d|fail)
     )
   |trace_state
theorem UK (x:Pk) (t:Int):FnS Tryz.prog 156 [pkA x,.ep (fun _=>.int .i64 t) 1] [] (AB (decide (x.id=t))) []:=by
 refine fb Tryz.func156 (by kernel_rfl) rfl Tryz.ntmps156 Tryz.results156 rfl rfl rfl rfl fun E hS=>?_
 repeat'(first|refine sB ?_|refine Aj rfl (by exact tt0) ?_|fail)
 all_goals exact As Ab rfl rfl
theorem WX {σ:St} {t:Int} {n1:Nat} {L:List Nat} (hL:n1∈L) (h1:σ (.b n1)=some (.k (.box [.d (.int .i64 t)]))):AR Tryz.prog σ L (.fnc 156 [.ptr n1 0]) (.clo (BY fun x=>decide (x.id=t))):=
 .fnc (eps:=[.ep (fun _=>.int .i64 t) 1]) (.cons (.ptr hL h1 (fun j hj=>by
  have:j=0:=by omega
  subst this;rfl)) .nil) (enters_of Tryz.func156 (by kernel_rfl) rfl)
  (by rintro _ _ ⟨x,rfl,rfl⟩;exact⟨rfl,UK x t⟩)
def hasB (l:List Pk) (id:Int):Bool:=l.any fun x=>decide (x.id=id)
theorem Mq (q:Qu) (id:Int):FnS Tryz.prog 111 [quA q,AI id] [] (AB (hasB q.Af id)) []:=by
 refine fb Tryz.func111 (by kernel_rfl) rfl Tryz.ntmps111 Tryz.results111 rfl rfl rfl rfl fun E hS=>?_
 repeat'(first|refine sB ?_|refine Aj rfl (by exact tt0) ?_|(refine gC ?_;first|refine AJ [3] (IY q.Af (fun x=>decide (x.id=id))) (gk rfl) rfl (by(repeat'(first|exact .nil|refine .cons ?_ ?_|exact .of0 (.c .d)|exact(WX (by simp) rfl)))<;>fail) (by rfl) rfl (by rfl) rfl (by rfl) rfl ?_)|fail)
 all_goals exact As Ab rfl rfl
def VW (node:Int) (x:Pk):Bool:=decide (x.to=node\/100<x.data.size)
theorem Mb (x:Pk) (s:Sta):FnS Tryz.prog 158 [pkA x,.ep (fun j=>s.enc.getD j .Dh) 14] [] (AB (VW s.tb.node x)) []:=by
 refine fb Tryz.func158 (by kernel_rfl) rfl Tryz.ntmps158 Tryz.results158 rfl rfl rfl rfl fun E hS=>?_
 repeat'(first|refine sB ?_|refine Aj rfl (by exact tt0) ?_|(refine Ax rfl ?_ ?_<;>intro h<;>have hq:=h<;>(try simp only[hqs] at hq))|fail)
 all_goals(refine As Ab rfl ?_;unfold VW)
 ·exact Aed (Or.inl (by assumption))
 ·exact decide_eq_decide.2 (by omega)
theorem NC {σ:St} {s:Sta} {n1:Nat} {L:List Nat} (hL:n1∈L) (h1:σ (.b n1)=some (.k (.box s.cs))):AR Tryz.prog σ L (.fnc 158 [.ptr n1 0]) (.clo (BY (VW s.tb.node))):=
 .fnc (eps:=[.ep (fun j=>s.enc.getD j .Dh) 14]) (.cons (.ptr hL h1 (fun j hj=>by
  have:j=0\/j=1\/j=2\/j=3\/j=4\/j=5\/j=6\/j=7\/j=8\/j=9\/j=10\/j=11\/j=12\/j=13:=by omega
  rcases this with rfl|rfl|rfl|rfl|rfl|rfl|rfl|rfl|rfl|rfl|rfl|rfl|rfl|rfl<;>rfl)) .nil) (enters_of Tryz.func158 (by kernel_rfl) rfl)
  (by rintro _ _ ⟨x,rfl,rfl⟩;exact⟨rfl,Mb x s⟩)
def CY (s:Sta):Bool:=decide (Bq s.qu=0)&&!(s.qu.Af.any (VW s.tb.node))
theorem Gi (s:Sta):FnS Tryz.prog 112 [stA s] [] (AB (CY s)) []:=by
 refine fb Tryz.func112 (by kernel_rfl) rfl Tryz.ntmps112 Tryz.results112 rfl rfl rfl rfl fun E hS=>?_
 repeat'(first|refine sB ?_|refine Aj rfl (by exact tt0) ?_|(refine gC ?_;first|refine Aa (EK _) (gk rfl) rfl rfl rfl (by rfl) rfl (by rfl) rfl ?_|refine AJ [1] (IY s.qu.Af (VW s.tb.node)) (gk rfl) rfl (by(repeat'(first|exact .nil|refine .cons ?_ ?_|exact .of0 (.c .d)|exact(NC (by simp) rfl)))<;>fail) (by rfl) rfl (by rfl) rfl (by rfl) rfl ?_)|(refine Ax rfl ?_ ?_<;>intro h<;>have hq:=h<;>(try simp only[hqs] at hq))|fail)
 all_goals(refine As Ab rfl ?_;unfold CY)
 ·rw[Aed (by assumption)];rfl
 ·rw[Aee (by assumption)];rfl
def Iq (s:Sta):Bool:=decide ((s.Bm=-1/\s.tries=0)\/(0<=s.Bm/\hasB s.qu.Af s.Bm=true/\1<=s.tries/\s.tries<4))
def R0 (s:Sta):Bool:=decide (0<=s.list/\s.list<=255/\0<=s.seq/\s.seq<=255/\0<=s.back/\s.back<=5/\0<=s.wait/\s.wait<=2^s.back.toNat-1/\0<=s.CP/\s.CP<=2147483647)
def okS (s:Sta):Bool:=decide (Ci s.tb=0)&&CY s&&Gm s.held&&Hk s.seen&&Iq s&&R0 s
def AT (s:Sta):Int:=if okS s=true then 0 else 1
theorem Cz {s:Sta} (h:¬Ci s.tb=0\/CY s=false\/Gm s.held=false\/Hk s.seen=false\/Iq s=false\/R0 s=false):AT s=1:=by
 unfold AT okS;rcases h with h|h|h|h|h|h<;>simp[h]
theorem Ct {s:Sta} (h1:Ci s.tb=0) (h2:CY s=true) (h3:Gm s.held=true) (h4:Hk s.seen=true) (h5:Iq s=true) (h6:R0 s=true):AT s=0:=by
 unfold AT okS;simp[h1,h2,h3,h4,h5,h6]
theorem Acn (b:Int):b<0\/5<b\/(1<=(2:Int)^b.toNat/\(2:Int)^b.toNat<=32):=by
 by_cases h1:b<0
 ·exact .inl h1
 by_cases h2:5<b
 ·exact .inr (.inl h2)
 refine .inr (.inr ?_);have:b=0\/b=1\/b=2\/b=3\/b=4\/b=5:=by omega
 rcases this with rfl|rfl|rfl|rfl|rfl|rfl<;>decide
set_option maxHeartbeats 2000000 in
theorem Dl (s:Sta):FnS Tryz.prog 68 [stA s] [] (AI (AT s)) []:=by
 have hpow:s.back<0\/5<s.back\/(1<=(2:Int)^s.back.toNat/\(2:Int)^s.back.toNat<=32):=Acn s.back;refine fb Tryz.func68 (by kernel_rfl) rfl Tryz.ntmps68 Tryz.results68 rfl rfl rfl rfl fun E hS=>?_
 cases htr:Iq s with
 |false=>
  have ht:=AeD htr
  repeat'(first|refine sR ?_|refine Aj rfl (by exact tt0) ?_|(refine gC ?_;first|refine Aa (BC _ _) (gk rfl) rfl rfl rfl (by rfl) rfl (by rfl) rfl ?_|refine Aa (Mq s.qu _) (gk rfl) rfl rfl rfl (by rfl) rfl (by rfl) rfl ?_|refine Aa (DT s.tb) (gk rfl) rfl rfl rfl (by rfl) rfl (by rfl) rfl ?_|refine Aa (Gi s) (gk rfl) rfl rfl rfl (by rfl) rfl (by rfl) rfl ?_|refine Aa (Kd _) (gk rfl) rfl rfl rfl (by rfl) rfl (by rfl) rfl ?_|refine Aa (JN _) (gk rfl) rfl rfl rfl (by rfl) rfl (by rfl) rfl ?_)|(refine Ax rfl ?_ ?_<;>intro h<;>have hq:=h<;>(try simp only[hqs] at hq))|refine sq 4 rfl ?_|(refine gD ?_;first|refine Ah rfl ?_|(refine Ay rfl ?_ ?_<;>intro h<;>have hq:=h<;>(try simp only[hqs] at hq)))|fail)
  all_goals first
   |(refine AG Ab rfl ?_
     exact Cz (.inr (.inr (.inr (.inr (.inl htr))))))
   |(exfalso;simp_all;done)
   |(exfalso;simp_all;omega)
 |true=>
  have ht:=AeC htr;rcases ht with⟨h1,h2⟩|⟨h1,h2,h3,h4⟩
  ·have d1:decide (s.Bm=-1)=true:=Aed h1;have d2:decide (s.tries=0)=true:=Aed h2
   repeat'(first|refine sB ?_|refine Aj rfl (by first|exact tt0|omega) ?_|(refine gC ?_;first|refine Aa (BC _ _) (gk rfl) rfl rfl rfl (by rfl) rfl (by rfl) rfl ?_|refine Aa (DT s.tb) (gk rfl) rfl rfl rfl (by rfl) rfl (by rfl) rfl ?_|refine Aa (Gi s) (gk rfl) rfl rfl rfl (by rfl) rfl (by rfl) rfl ?_|refine Aa (Kd _) (gk rfl) rfl rfl rfl (by rfl) rfl (by rfl) rfl ?_|refine Aa (JN _) (gk rfl) rfl rfl rfl (by rfl) rfl (by rfl) rfl ?_)|(refine gB ?_;first|refine LN (gk rfl) rfl rfl (by omega) rfl (by omega) ?_)|refine Az rfl (by assumption) ?_|(refine Ax rfl ?_ ?_<;>intro h<;>have hq:=h<;>(try simp only[hqs] at hq))|refine Ap (by kernel_rfl) ?_|(refine gD ?_;first|refine Ah rfl ?_|(refine Ay rfl ?_ ?_<;>intro h<;>have hq:=h<;>(try simp only[hqs] at hq)))|fail)
   all_goals
    refine AG Ab rfl ?_
    first
    |(refine Cz (.inl ?_);assumption)
    |(refine Cz (.inr (.inl ?_));assumption)
    |(refine Cz (.inr (.inr (.inl ?_)));assumption)
    |(refine Cz (.inr (.inr (.inr (.inl ?_))));assumption)
    |(refine Cz (.inr (.inr (.inr (.inr (.inr ?_)))));refine Aee ?_;omega)
    |(refine Ct ?_ ?_ ?_ ?_ ?_ ?_
      ·assumption
      ·assumption
      ·assumption
      ·assumption
      ·assumption
      ·refine Aed ?_;omega)
  ·have d1:decide (s.Bm=-1)=false:=Aee (by omega);have d3:decide (0<=s.Bm)=true:=Aed h1;have d5:decide (1<=s.tries)=true:=Aed h3;have d6:decide (s.tries<4)=true:=Aed h4;have d7:(!decide (s.tries<4))=false:=by rw[d6];rfl
   repeat'(first|refine sB ?_|refine Aj rfl (by first|exact tt0|omega) ?_|(refine gC ?_;first|refine Aa (BC _ _) (gk rfl) rfl rfl rfl (by rfl) rfl (by rfl) rfl ?_|refine Aa (Mq s.qu _) (gk rfl) rfl rfl rfl (by rfl) rfl (by rfl) rfl ?_|refine Aa (DT s.tb) (gk rfl) rfl rfl rfl (by rfl) rfl (by rfl) rfl ?_|refine Aa (Gi s) (gk rfl) rfl rfl rfl (by rfl) rfl (by rfl) rfl ?_|refine Aa (Kd _) (gk rfl) rfl rfl rfl (by rfl) rfl (by rfl) rfl ?_|refine Aa (JN _) (gk rfl) rfl rfl rfl (by rfl) rfl (by rfl) rfl ?_)|(refine gB ?_;first|refine LN (gk rfl) rfl rfl (by omega) rfl (by omega) ?_)|refine Az rfl (by assumption) ?_|(refine Ax rfl ?_ ?_<;>intro h<;>have hq:=h<;>(try simp only[hqs] at hq))|refine Ap (by kernel_rfl) ?_|(refine gD ?_;first|refine Ah rfl ?_|(refine Ay rfl ?_ ?_<;>intro h<;>have hq:=h<;>(try simp only[hqs] at hq)))|fail)
   all_goals
    refine AG Ab rfl ?_
    first
    |(refine Cz (.inl ?_);assumption)
    |(refine Cz (.inr (.inl ?_));assumption)
    |(refine Cz (.inr (.inr (.inl ?_)));assumption)
    |(refine Cz (.inr (.inr (.inr (.inl ?_))));assumption)
    |(refine Cz (.inr (.inr (.inr (.inr (.inr ?_)))));refine Aee ?_;omega)
    |(refine Ct ?_ ?_ ?_ ?_ ?_ ?_
      ·assumption
      ·assumption
      ·assumption
      ·assumption
      ·assumption
      ·refine Aed ?_;omega)
theorem Ff (n:Int):FnS Tryz.prog 77 [AI n] [] (AB (decide (0<=n/\n<=31))) []:=by
 refine fb Tryz.func77 (by kernel_rfl) rfl Tryz.ntmps77 Tryz.results77 rfl rfl rfl rfl fun E hS=>?_
 repeat'(first|refine sB ?_|refine Aj rfl (by exact tt0) ?_|(refine Ax rfl ?_ ?_<;>intro h<;>have hq:=h<;>(try simp only[hqs] at hq))|fail)
 ·refine As Ab rfl ?_;exact decide_eq_decide.2 (by omega)
 ·refine As Ab rfl ?_;exact Aee (by omega)
theorem Bl {s:Sta} (h:AT s=0):Ci s.tb=0/\Bq s.qu=0/\(∀p∈s.qu.Af,VW s.tb.node p=false)/\Gm s.held=true/\Hk s.seen=true/\Iq s=true/\R0 s=true:=by
 unfold AT at h
 split at h
 ·rename_i hk;simp only[okS,CY,Aen,Aef] at hk;obtain⟨⟨⟨⟨⟨h1,h2,h3⟩,h4⟩,h5⟩,h6⟩,h7⟩:=hk;refine⟨h1,h2,fun p hp=>?_,h4,h5,h6,h7⟩;simp only[Bool.not_eq_true'] at h3;have:=(Aew.1 h3) p hp;simpa using this
 ·cases h
theorem IL {n:Nat} {p:Nat->Bool} (h:(List.range n).any p=false) {i:Nat} (hi:i<n):p i=false:=by
 have:=(Aew.1 h) i (AeL.2 hi);simpa using this
theorem DZ {l:List Hd} (h:Gm l=true):l.length<=16/\∀i,i<l.length->FD (l.getD i default)=true/\(l.getD i default).data.size<=100/\(0<i->(l.getD (i-1) default).Ca<(l.getD i default).Ca):=by
 simp only[Gm,Aen,Bool.not_eq_true',Aef] at h;refine⟨by omega,fun i hi=>?_⟩;have:=AeD (IL h.1 hi);refine⟨?_,?_,fun h0=>?_⟩
 ·cases hr:FD (l.getD i default) with
  |true=>rfl
  |false=>exact absurd (.inl hr) this
 ·exact Nat.le_of_not_lt fun h2=>this (.inr (.inl h2))
 ·exact Int.lt_of_not_ge fun h2=>this (.inr (.inr ⟨h0,h2⟩))
theorem DO {h:Hd} (hr:FD h=true):0<=h.Ca/\h.Ca<=255/\0<=h.frame/\h.frame<=65535/\0<=h.til/\h.til<=109951162/\EA h.AQ=true:=by
 simp only[FD,Aen,Aef] at hr;obtain⟨⟨h1,h2,h3,h4,h5,h6⟩,h7⟩:=hr;exact⟨h1,h2,h3,h4,h5,h6,h7⟩
def zAc:Ac:=⟨0,0,0,0,0,0,0,0,0,0,0,0,0,⟨#[]⟩⟩
def zUp:Up:=⟨false,false,0,0,0,0,0,0,0,0,0,0,0,⟨#[]⟩⟩
def noS:Sta:=⟨⟨0,0,[]⟩,⟨0,[]⟩,[],[],0,0,0,0,0,0,0⟩
def Oa (l:List Hd) (Ca:Int):Option Nat:=Fl l fun h=>decide (h.Ca=Ca)
def Xy (t:Tb) (to:Int):Bool:=t.cells.any fun c=>decide (c.kind=2)&&c.send&&decide (c.peer=to)
def G0 (s:Sta):Option Nat:=Fl s.qu.Af fun p=>decide (p.to=-1)||!Xy s.tb p.to
def Aal (s:Sta) (o:Option Nat):Pk:=match o with|none=>noP|some i=>s.qu.Af.getD i default
def Abw:Ac:={zAc with kind:=2}
def Abt (s:Sta) (p:Pk):Ac:=⟨1,0,4,s.tb.node,p.to,s.list,s.seq,0,0,0,0,0,0,p.data⟩
def Adn (s:Sta) (c:TC) (h:Hd):Ac:=⟨1,0,1,s.tb.node,c.peer,s.list,h.frame % 256,h.Ca,h.frame,0,0,0,0,h.data⟩
def Vi (s:Sta) (slot:Int) (c:TC):Ac:=if c.send=false then Abw else match Oa s.held c.Ca with
 |none=>zAc
 |some i=>if(s.held.getD i default).til<slot\/((s.held.getD i default).AQ.any fun y=>decide (c.peer=y))=true then zAc else Adn s c (s.held.getD i default)
def Xz (s:Sta) (c:TC):Ac:=if c.send=false then Abw else if(DJ s.qu c.peer).2=true then Abt s (DJ s.qu c.peer).1 else zAc
def XQ (s:Sta):Ac:=if(G0 s).isSome=true/\s.wait=0 then Abt s (Aal s (G0 s)) else Abw
def GZ (s:Sta) (slot:Int) (c:TC):Ac:=if c.kind=1 then Vi s slot c else if c.kind=2 then Xz s c else if c.kind=3 then XQ s else zAc
def QU (a:Ac) (o:Int):Ac:=if a.kind=0 then a else{a with offset:=o}
def CV (s:Sta) (slot:Int) (c:TC):Ac:=QU (GZ s slot c) c.offset
def Ru (s:Sta) (slot:Int):Ac×Int:=if AT s≠0 then(zAc,1) else if slot<0\/109951162<slot then(zAc,2) else(CV s slot (atM s.tb slot).1,0)
def DB (s:Sta) (id:Int):Sta:={s with qu:=(I3 s.qu id).1,seq:=(s.seq+1) % 256,Bm:=-1,tries:=0}
def BG (s:Sta) (c:TC):Pk:=if c.kind=3 then Aal s (G0 s) else(DJ s.qu c.peer).1
def El (s:Sta) (c:TC):Int:=if s.Bm=(BG s c).id then s.tries+1 else 1
def UL (s:Sta) (c:TC) (AQ:Bool):Sta:=if c.kind=3 then{DB s (BG s c).id with back:=0,wait:=0} else DB s (BG s c).id
def BR (x:Int):Int:=(1103515245*x+12345) % 2147483648
def Ads (s:Sta) (c:TC):Sta:={s with Bm:=(BG s c).id,tries:=El s c,back:=min (s.back+1) 5,CP:=BR s.CP}
def OR (s:Sta) (c:TC):Sta:=if c.kind=3 then{Ads s c with wait:=BR s.CP/65536 % 2^(min (s.back+1) 5).toNat}
 else{s with Bm:=(BG s c).id,tries:=El s c}
def C3 (s:Sta) (c:TC) (AQ:Bool):Sta:=
 if(BG s c).to=-1 then DB s (BG s c).id else if AQ=true\/4<=El s c then UL s c AQ else OR s c
def Ta (f:Fr) (new:Bool):Up:=⟨true,new,f.kind,f.source,f.target,f.list,f.seq,f.Ca,f.number,f.err,f.slot,f.rank,f.epoch,f.data⟩
def KC (r:Rs):Fr:=⟨r.B1,r.source,r.target,r.list,r.seq,r.Ca,r.number,r.err,r.slot,r.rank,r.epoch,r.data⟩
def Dw (s:Sta):Sta:=if 0<=s.Bm/\hasB s.qu.Af s.Bm=false then{s with Bm:=-1,tries:=0} else s
def Jj (s:Sta) (p:Pk):Sta×List Pk×Int:=if AT s≠0 then(noS,[],1) else if(E7 s.qu p).2.2≠0 then(noS,[],(E7 s.qu p).2.2)
 else if p.to=s.tb.node then(noS,[],12) else if 100<p.data.size then(noS,[],8) else(Dw {s with qu:=(E7 s.qu p).1},(E7 s.qu p).2.1,0)
def Cy (s:Sta) (slot:Int):Sta×List Pk×Int:=if AT s≠0 then(noS,[],1) else if slot<0\/109951162<slot then(noS,[],2)
 else(Dw {s with held:=s.held.filter fun h=>!decide (h.til<slot),qu:=(CS s.qu slot).1},(CS s.qu slot).2,0)
def OX (t:Tb) (Bk CP:Int):Sta×Int:=if Ci t≠0 then(noS,1) else if Bk<1\/64<Bk\/CP<0\/2147483647<CP then(noS,2) else(⟨t,⟨Bk,[]⟩,[],[],0,0,-1,0,0,0,CP⟩,0)
end Go.Proofs
end
section
namespace Go.Proofs.P
open Go Go.Sx
set_option maxRecDepth 4000
attribute [local irreducible] VR VC thenQ blockQ
structure Nb where
 node:Int
 epoch:Int
 rank:Int
 slot:Int
 att:Int
 ack:Int
 deriving DecidableEq,Inhabited
def Nb.enc (x:Nb):List D:=[.int .i64 x.node,.int .i64 x.epoch,.int .i64 x.rank,.int .i64 x.slot,.int .i64 x.att,.int .i64 x.ack]
abbrev nbs (l:List Nb):D:=IS Nb.enc 6 l
def inR (n lo hi:Int):Bool:=decide (lo<=n/\n<=hi)
theorem C0 (n lo hi:Int):(inR n lo hi=true)=(lo<=n/\n<=hi):=by simp[inR]
theorem Sw (n lo hi:Int):(inR n lo hi=false)=¬(lo<=n/\n<=hi):=by simp[inR]
theorem DN (n lo hi:Int):FnS Tryz.prog 116 [AI n,AI lo,AI hi] [] (AB (inR n lo hi)) []:=by
 refine fb Tryz.func116 (by kernel_rfl) rfl Tryz.ntmps116 Tryz.results116 rfl rfl rfl rfl fun E hS=>?_
 repeat'(first|refine sB ?_|refine Aj rfl (by exact tt0) ?_|(refine Ax rfl ?_ ?_<;>intro h<;>have hq:=h<;>(try simp only[hqs] at hq))|fail)
 all_goals refine As Ab rfl ?_
 all_goals simp_all [inR]<;>omega
def DF (n e r s:Int):Bool:=inR n 0 31&&inR e 1 65535&&inR r 0 65534&&inR s 0 1099511627776
theorem C1 (n e r s:Int):FnS Tryz.prog 115 [AI n,AI e,AI r,AI s] [] (AB (DF n e r s)) []:=by
 refine fb Tryz.func115 (by kernel_rfl) rfl Tryz.ntmps115 Tryz.results115 rfl rfl rfl rfl fun E hS=>?_
 repeat'(first|refine sB ?_|refine Aj rfl (by exact tt0) ?_|(refine gC ?_;first|refine AN (DN _ _ _) (gk rfl) rfl rfl rfl rfl rfl rfl ?_)|(refine Ax rfl ?_ ?_<;>intro h<;>have hq:=h<;>(try simp only[hqs] at hq))|fail)
 all_goals refine As Ab rfl ?_
 all_goals simp_all [DF]
def Ho (l:List Nb) (i:Nat):Int:=
 let x:=l.getD i default
 if DF x.node x.epoch x.rank x.slot&&inR x.att 0 255&&inR x.ack 0 x.att then
  if 0<i/\x.node<=(l.getD (i-1) default).node then 5 else 0
 else 2
def checkNb (l:List Nb):Int:=if 32<l.length then 8 else Dc l.length (Ho l)
theorem Qg {l:List Nb} {k:Nat} {e:Int} (h0:l.length<=32) (h:k<=l.length/\∀i,i<k->Ho l i=0) (hk:k<l.length) (he:Ho l k=e) (hne:e≠0):e=checkNb l:=by
 subst he;rw[checkNb,AeS (by omega),Gq h.2 hk hne]
theorem OC {l:List Nb} {k:Nat} (h0:l.length<=32) (h:k<=l.length/\∀i,i<k->Ho l i=0) (hk:l.length<=k):(0:Int)=checkNb l:=by
 rw[checkNb,AeS (by omega),CD fun i hi=>h.2 i (by omega)]
theorem BE (l:List Nb):FnS Tryz.prog 73 [AD (nbs l)] [] (AI (checkNb l)) []:=by
 refine fb Tryz.func73 (by kernel_rfl) rfl Tryz.ntmps73 Tryz.results73 rfl rfl rfl rfl fun E hS=>?_
 refine BP (t:=0) rfl fun hb=>?_
 repeat'(first|refine sC ?_|refine Aj rfl (by exact tt0) ?_|(refine gD ?_;first|(refine Ay rfl ?_ ?_<;>intro h<;>have hq:=h<;>(try simp only[hqs] at hq)))|fail)
 ·refine AG Ab rfl ?_;simp[checkNb];omega
 ·refine AA (ι:=Nat) (fun k=>AS [(0,AD (nbs l)),(8,AD (nbs l)),(9,AI l.length),(10,AI k)] []) (fun k=>k<=l.length/\∀i,i<k->Ho l i=0) (fun k=>l.length-k) 0 ⟨AeV _,fun i hi=>absurd hi (AeQ _)⟩ ?_ ?_
  ·exact B4 ⟨rfl,rfl,rfl,rfl,trivial⟩ trivial rfl
  ·intro k hk
   repeat'(first|refine sC ?_|refine Aj rfl (by first|exact tt0|omega) ?_|(refine gC ?_;first|refine AN (C1 _ _ _ _) (gk rfl) rfl rfl rfl rfl rfl rfl ?_|refine AN (DN _ _ _) (gk rfl) rfl rfl rfl rfl rfl rfl ?_)|(refine gI ?_;first|refine Aq (gk rfl) rfl rfl rfl rfl rfl (by omega) rfl ?_|refine Dm (gk rfl) rfl rfl rfl rfl rfl (by omega) rfl ?_)|(refine Ax rfl ?_ ?_<;>intro h<;>have hq:=h<;>(try simp only[hqs] at hq))|refine Ap (by kernel_rfl) ?_|(refine gD ?_;first|refine Ah rfl ?_|refine Ag rfl ?_|(refine Ay rfl ?_ ?_<;>intro h<;>have hq:=h<;>(try simp only[hqs] at hq)))|fail)
   all_goals first
    |(refine AG Ab rfl ?_
      first
      |exact(OC (by omega) hk (by omega)).symm
      |(refine(Qg (by omega) hk (by omega) ?_ (by decide)).symm;simp_all [Ho]))
    |(refine⟨k+1,⟨by omega,fun i hi=>?_⟩,by omega,B4 ⟨rfl,rfl,rfl,rfl,trivial⟩ trivial rfl⟩
      by_cases hik:i<k
      ·exact hk.2 i hik
      ·have:i=k:=by omega
       subst this
       simp_all [Ho])
    |trace_state
end Go.Proofs.P
end
