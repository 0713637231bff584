/-
  Functions' results, and laws on them. No condition.
-/
import Derived.Test.YtdlcbilgemnomaaGreatSxMad
import Derived.Test.YtdlcbilgemnomaaGreatSxMac
set_option linter.unusedSimpArgs false
set_option linter.unusedVariables false
set_option maxRecDepth 4000
set_option maxHeartbeats 16000000
open Go.Proofs.Tryz
namespace Go.Proofs.Q
open Go Go.Sx
attribute [local irreducible] VR VC thenQ blockQ retL
theorem ZT (x:Pk) (t:Int):Ak 218 [pkA x,.ep (fun _=>.int .i64 t) 1] (AB (ES x t)):=by
 refine Ao func218 ntmps218 results218 fun E hS=>?_
 repeat'(first|refine Ad ?_|refine Aa (NQ _ _) ?_|fail)
 all_goals exact AO
theorem AbV {σ:St} {t:Int} {n1:Nat} {L:List Nat} (hL:n1∈L) (h1:σ (.b n1)=some (.k (.box [.d (.int .i64 t)]))):AR Tryz.prog σ L (.fnc 218 [.ptr n1 0]) (.clo (Cg fun x=>ES x t)):=
 .fnc (eps:=[.ep (fun _=>.int .i64 t) 1]) (.cons (.ptr hL h1 (fun j hj=>by
  have:j=0:=by omega
  subst this;rfl)) .nil) (enters_of func218 (by kernel_rfl) rfl)
  (by rintro _ _ ⟨x,rfl,rfl⟩;exact⟨rfl,ZT x t⟩)
theorem ZS (x:Pk) (t:Int):Ak 220 [pkA x,.ep (fun _=>.int .i64 t) 1] (AB (!ES x t)):=by
 refine Ao func220 ntmps220 results220 fun E hS=>?_
 repeat'(first|refine Ad ?_|refine Aa (NQ _ _) ?_|fail)
 all_goals exact AO
theorem AbU {σ:St} {t:Int} {n1:Nat} {L:List Nat} (hL:n1∈L) (h1:σ (.b n1)=some (.k (.box [.d (.int .i64 t)]))):AR Tryz.prog σ L (.fnc 220 [.ptr n1 0]) (.clo (Cg fun x=>!ES x t)):=
 .fnc (eps:=[.ep (fun _=>.int .i64 t) 1]) (.cons (.ptr hL h1 (fun j hj=>by
  have:j=0:=by omega
  subst this;rfl)) .nil) (enters_of func220 (by kernel_rfl) rfl)
  (by rintro _ _ ⟨x,rfl,rfl⟩;exact⟨rfl,ZS x t⟩)
def EZ (l:List Pk) (slot:Int):List Pk:=l.filter fun x=>!ES x slot
def Ff (l:List Pk) (slot:Int):List Pk:=l.filter fun x=>ES x slot
theorem W6 (l:List Pk) (slot:Int):(EZ l slot).length<=l.length:=Aj4 _ _
theorem V8 (l:List Pk) (slot:Int):(Ff l slot).length<=l.length:=Aj4 _ _
def BX (q:Qu) (slot:Int):Qu×List Pk:=if Br q≠0 then(q,[]) else(⟨q.Be,EZ q.Ab slot⟩,Ff q.Ab slot)
theorem Uc (q:Qu) (slot:Int):Ak 163 [quA q,AI slot] (.tup [quA (BX q slot).1,AD (pks (BX q slot).2)]):=by
 have hck:=FQ q;refine Ao func163 ntmps163 results163 fun E hS=>?_
 refine AG ?_;by_cases hc:Br q=0
 ·rw[hc] at hck;have hl:=B9 hc;have hd1:=AcO q.Ab (fun x=>ES x slot) (by omega);have hd2:=AcO q.Ab (fun x=>!ES x slot) (by omega);have e2:(q.Ab.filter fun x=>!!ES x slot)=Ff q.Ab slot:=by simp only[Bool.not_not];rfl
  rw[e2] at hd2;rw[BX,Akb (by omega)]
  repeat'(first|refine Ad ?_|refine Aa (hck) ?_|refine Aa (Iw q.Ab (by omega)) ?_|refine Cx [3] (hd1) Ai ?_ (hAR:=(.cons (AbV (AjI.2 rfl) rfl) .nil))|refine Cx [3] (hd2) Ai ?_ (hAR:=(.cons (AbU (AjI.2 rfl) rfl) .nil))|fail)
  exact Ag (Cu (l:=[(4,.c (.ptr 4 0)),(5,AD (pks (Ff q.Ab slot)))]) (b:=[(4,.box (Qu.cs ⟨q.Be,EZ q.Ab slot⟩))]) (fun n=>n) [20000,26000] hS) Aj
 ·rw[BX,Akc hc];have hd:decide (Br q≠0)=true:=by simp[hc]
  repeat'(first|refine Ad ?_|refine Aa (hck) ?_|fail)
  exact Ag (Al (l:=[(4,.c (.ptr 4 0)),(5,AD (pks []))]) (b:=[(4,.box q.cs)])) Aj
theorem O6 (q:Qu) (slot:Int):Ak 138 [quA q,AI slot] (.tup [quA (BX q slot).1,AD (pks (BX q slot).2)]):=by
 have hck:=Fp q;refine Ao func138 ntmps138 results138 fun E hS=>?_
 refine AG ?_;by_cases hc:Br q=0
 ·rw[hc] at hck;have hl:=B9 hc;rw[BX,Akb (by omega)]
  repeat'(first|refine Af ?_|refine Aa (hck) ?_|fail)
  refine VC.le (Gf (bx:=6) (nm:=44) (T:=120) (sz:=6) (j:=1) rfl rfl rfl) ?_;refine VC.le (le_nil (t:=7) (nm:=45) (T:=120) (sz:=6) rfl rfl) ?_;refine Ax (ι:=Nat) (fun k=>AN [(1,AI slot),(2,.c (.ptr 2 0)),(4,.c (.ptr 4 0)),(6,.c (.ptr 6 0)),(7,.c (.row 45 (Ff (q.Ab.take k) slot).length)),(8,AI k)] [(2,.box q.cs),(4,.box noQ.cs),(6,.box [.d (.int .i64 q.Be),.row 44 (EZ (q.Ab.take k) slot).length]),(44,.row 120 6 (rowOf Pk.enc (EZ (q.Ab.take k) slot))),(45,.row 120 6 (rowOf Pk.enc (Ff (q.Ab.take k) slot)))])
   (fun k=>k<=q.Ab.length) (fun k=>q.Ab.length-k) 0 (Ake _) ?_ ?_
  ·exact Al
  ·intro k hk;have h1:=W6 (q.Ab.take k) slot;have h2:=V8 (q.Ab.take k) slot;rw[AjD] at h1 h2
   repeat'(first|refine Af ?_|refine Ap ?_|refine F2 rfl rfl rfl rfl rfl ?_|(refine Av ?_ ?_<;>intro h hq)|fail)
   ·have hs:ES (q.Ab.getD k default) slot=true:=by simp only[ES,AjE,Ajw];omega
    have e1:Ff (q.Ab.take (k+1)) slot=Ff (q.Ab.take k) slot++[q.Ab.getD k default]:=by unfold Ff;rw[Dz (by omega),Akc hs]
    have e2:EZ (q.Ab.take (k+1)) slot=EZ (q.Ab.take k) slot:=by unfold EZ;rw[Dz (by omega),Akb (by rw[hs];simp),AjQ]
    refine BU (k+1) ?_;rw[e1,e2];exact BF (fun n=>if n=45 then 43 else n)
   ·have hs:ES (q.Ab.getD k default) slot=false:=by simp only[ES,Ala,Ajx];omega
    have e1:Ff (q.Ab.take (k+1)) slot=Ff (q.Ab.take k) slot:=by unfold Ff;rw[Dz (by omega),Akb (by rw[hs];simp),AjQ]
    have e2:EZ (q.Ab.take (k+1)) slot=EZ (q.Ab.take k) slot++[q.Ab.getD k default]:=by unfold EZ;rw[Dz (by omega),Akc (by rw[hs];rfl)]
    refine BU (k+1) ?_;rw[e1,e2];exact BF (fun n=>if n=44 then 48 else n)
   ·have hs:ES (q.Ab.getD k default) slot=false:=by simp only[ES,Ala,Ajx];omega
    have e1:Ff (q.Ab.take (k+1)) slot=Ff (q.Ab.take k) slot:=by unfold Ff;rw[Dz (by omega),Akb (by rw[hs];simp),AjQ]
    have e2:EZ (q.Ab.take (k+1)) slot=EZ (q.Ab.take k) slot++[q.Ab.getD k default]:=by unfold EZ;rw[Dz (by omega),Akc (by rw[hs];rfl)]
    refine BU (k+1) ?_;rw[e1,e2];exact BF (fun n=>if n=44 then 48 else n)
   ·have hk':k=q.Ab.length:=by omega
    subst hk';rw[AkB];exact Ag (Cu (l:=[(4,.c (.ptr 4 0)),(5,AD (pks (Ff q.Ab slot)))]) (b:=[(4,.box (Qu.cs ⟨q.Be,EZ q.Ab slot⟩))]) (fun n=>n) [44,45] hS) Aj
 ·rw[BX,Akc hc];have hd:decide (Br q≠0)=true:=by simp[hc]
  repeat'(first|refine Ad ?_|refine Aa (hck) ?_|fail)
  exact Ag (Al (l:=[(4,.c (.ptr 4 0)),(5,AD (pks []))]) (b:=[(4,.box q.cs)])) Aj
def Ad3 (a b:Qu):Bool:=decide (a.Be=b.Be/\a.Ab=b.Ab)
theorem HG (a b:Qu):Ak 83 [quA a,quA b] (AB (Ad3 a b)):=by
 refine Ao func83 ntmps83 results83 fun E hS=>?_
 repeat'(first|refine Ad ?_|refine Aa (Qx _ _) ?_|(refine Av ?_ ?_<;>intro h hq)|fail)
 all_goals(refine Aq Ae rfl ?_;unfold Ad3;simp_all)
def AgP (q:Qu):Bool:=decide (q.Ab.length<=70)&&q.Ab.all fun x=>decide (x.data.size<=200)
theorem PB (q:Qu):Ak 61 [quA q] (AB (AgP q)):=by
 refine Ao func61 ntmps61 results61 fun E hS=>?_
 repeat'(first|refine Af ?_|(refine Av ?_ ?_<;>intro h hq)|fail)
 ·refine Aq Ae rfl ?_;rw[AgP,Ajv (by omega)];rfl
 ·refine Ax (ι:=Nat) (fun k=>AN [(1,.c (.ptr 1 0)),(3,AI k)] [(1,.box q.cs)]) (fun k=>k<=q.Ab.length/\∀i,i<k->(q.Ab.getD i default).data.size<=200) (fun k=>q.Ab.length-k) 0 ⟨Ake _,fun i hi=>absurd hi (Aj9 _)⟩ ?_ ?_
  ·exact Al
  ·intro k hk
   repeat'(first|refine Af ?_|(refine Av ?_ ?_<;>intro h hq)|fail)
   ·refine Aq Ae rfl ?_;have:(q.Ab.all fun x=>decide (x.data.size<=200))=false:=by
     rw[List.all_eq_false];exact⟨_,BS (l:=q.Ab) (i:=k) (by omega),by rw[Ajw];omega⟩
    rw[AgP,this,Ak4]
   ·refine⟨k+1,⟨by omega,fun i hi=>?_⟩,by omega,?_⟩
    ·by_cases hik:i<k
     ·exact hk.2 i hik
     ·have:i=k:=by omega
      subst this;omega
    ·exact Al
   ·refine Aq Ae rfl ?_;have:(q.Ab.all fun x=>decide (x.data.size<=200))=true:=by
     rw[AjL];intro x hx;obtain⟨i,hi,rfl⟩:=CI hx;exact Aju (hk.2 i (by omega))
    rw[AgP,this,Aju (by omega)];rfl
end Go.Proofs.Q
namespace Go.Proofs
open Go Go.Sx Go.Proofs.T Go.Proofs.Q
attribute [local irreducible] VR VC thenQ blockQ retL
structure Hd where
 BR:Int
 frame:Int
 til:Int
 data:ByteArray
 AH:List Int
 deriving DecidableEq,Inhabited
def Hd.enc (x:Hd):List D:=[.int .i64 x.BR,.int .i64 x.frame,.int .i64 x.til,.str x.data,ints x.AH]
def Hd.cs (x:Hd):List C:=[.d (.int .i64 x.BR),.d (.int .i64 x.frame),.d (.int .i64 x.til),.d (.str x.data),.d (ints x.AH)]
abbrev hdA (x:Hd):AV:=.agg x.cs
abbrev hds (l:List Hd):D:=Hj Hd.enc 5 l
structure Sn where
 node:Int
 seq:Int
 deriving DecidableEq,Inhabited
def Sn.enc (x:Sn):List D:=[.int .i64 x.node,.int .i64 x.seq]
def Sn.cs (x:Sn):List C:=[.d (.int .i64 x.node),.d (.int .i64 x.seq)]
abbrev snA (x:Sn):AV:=.agg x.cs
abbrev sns (l:List Sn):D:=Hj Sn.enc 2 l
theorem Agl {x y:Sn} (h:[SV.int IntKind.i64 x.seq,SV.int IntKind.i64 x.node].reverse=[SV.int IntKind.i64 y.seq,SV.int IntKind.i64 y.node].reverse):x=y:=by
 have h:=List.reverse_inj.1 h;cases x;cases y;simp only[Ak6,SV.int.injEq,SV.bool.injEq,SV.str.injEq,true_and,and_true] at h;obtain⟨rfl,rfl⟩:=h
 rfl
theorem Agk {x y:Sn} (h:x=y):[SV.int IntKind.i64 x.seq,SV.int IntKind.i64 x.node].reverse=[SV.int IntKind.i64 y.seq,SV.int IntKind.i64 y.node].reverse:=by rw[h]
instance:Jq Sn.enc:=⟨fun _=>rfl⟩
structure Fr where
 kind:Int
 source:Int
 target:Int
 list:Int
 seq:Int
 BR:Int
 number:Int
 err:Int
 slot:Int
 rank:Int
 epoch:Int
 data:ByteArray
 deriving DecidableEq,Inhabited
def Fr.enc (x:Fr):List D:=[.int .i64 x.kind,.int .i64 x.source,.int .i64 x.target,.int .i64 x.list,.int .i64 x.seq,.int .i64 x.BR,.int .i64 x.number,.int .i64 x.err,.int .i64 x.slot,.int .i64 x.rank,.int .i64 x.epoch,.str x.data]
def Fr.cs (x:Fr):List C:=[.d (.int .i64 x.kind),.d (.int .i64 x.source),.d (.int .i64 x.target),.d (.int .i64 x.list),.d (.int .i64 x.seq),.d (.int .i64 x.BR),.d (.int .i64 x.number),.d (.int .i64 x.err),.d (.int .i64 x.slot),.d (.int .i64 x.rank),.d (.int .i64 x.epoch),.d (.str x.data)]
abbrev frA (x:Fr):AV:=.agg x.cs
abbrev frs (l:List Fr):D:=Hj Fr.enc 12 l
theorem Aiq {x y:Fr} (h:[SV.str x.data,SV.int IntKind.i64 x.epoch,SV.int IntKind.i64 x.rank,SV.int IntKind.i64 x.slot,SV.int IntKind.i64 x.err,SV.int IntKind.i64 x.number,SV.int IntKind.i64 x.BR,SV.int IntKind.i64 x.seq,SV.int IntKind.i64 x.list,SV.int IntKind.i64 x.target,SV.int IntKind.i64 x.source,SV.int IntKind.i64 x.kind].reverse=[SV.str y.data,SV.int IntKind.i64 y.epoch,SV.int IntKind.i64 y.rank,SV.int IntKind.i64 y.slot,SV.int IntKind.i64 y.err,SV.int IntKind.i64 y.number,SV.int IntKind.i64 y.BR,SV.int IntKind.i64 y.seq,SV.int IntKind.i64 y.list,SV.int IntKind.i64 y.target,SV.int IntKind.i64 y.source,SV.int IntKind.i64 y.kind].reverse):x=y:=by
 have h:=List.reverse_inj.1 h;cases x;cases y;simp only[Ak6,SV.int.injEq,SV.bool.injEq,SV.str.injEq,true_and,and_true] at h;obtain⟨rfl,rfl,rfl,rfl,rfl,rfl,rfl,rfl,rfl,rfl,rfl,rfl⟩:=h
 rfl
theorem Aip {x y:Fr} (h:x=y):[SV.str x.data,SV.int IntKind.i64 x.epoch,SV.int IntKind.i64 x.rank,SV.int IntKind.i64 x.slot,SV.int IntKind.i64 x.err,SV.int IntKind.i64 x.number,SV.int IntKind.i64 x.BR,SV.int IntKind.i64 x.seq,SV.int IntKind.i64 x.list,SV.int IntKind.i64 x.target,SV.int IntKind.i64 x.source,SV.int IntKind.i64 x.kind].reverse=[SV.str y.data,SV.int IntKind.i64 y.epoch,SV.int IntKind.i64 y.rank,SV.int IntKind.i64 y.slot,SV.int IntKind.i64 y.err,SV.int IntKind.i64 y.number,SV.int IntKind.i64 y.BR,SV.int IntKind.i64 y.seq,SV.int IntKind.i64 y.list,SV.int IntKind.i64 y.target,SV.int IntKind.i64 y.source,SV.int IntKind.i64 y.kind].reverse:=by rw[h]
instance:Jq Fr.enc:=⟨fun _=>rfl⟩
structure Ac where
 kind:Int
 offset:Int
 BM:Int
 source:Int
 target:Int
 list:Int
 seq:Int
 BR:Int
 number:Int
 err:Int
 slot:Int
 rank:Int
 epoch:Int
 data:ByteArray
 deriving DecidableEq,Inhabited
def Ac.enc (x:Ac):List D:=[.int .i64 x.kind,.int .i64 x.offset,.int .i64 x.BM,.int .i64 x.source,.int .i64 x.target,.int .i64 x.list,.int .i64 x.seq,.int .i64 x.BR,.int .i64 x.number,.int .i64 x.err,.int .i64 x.slot,.int .i64 x.rank,.int .i64 x.epoch,.str x.data]
def Ac.cs (x:Ac):List C:=[.d (.int .i64 x.kind),.d (.int .i64 x.offset),.d (.int .i64 x.BM),.d (.int .i64 x.source),.d (.int .i64 x.target),.d (.int .i64 x.list),.d (.int .i64 x.seq),.d (.int .i64 x.BR),.d (.int .i64 x.number),.d (.int .i64 x.err),.d (.int .i64 x.slot),.d (.int .i64 x.rank),.d (.int .i64 x.epoch),.d (.str x.data)]
abbrev acA (x:Ac):AV:=.agg x.cs
abbrev acs (l:List Ac):D:=Hj Ac.enc 14 l
instance:Jq Ac.enc:=⟨fun _=>rfl⟩
structure Up where
 some:Bool
 new:Bool
 BM:Int
 source:Int
 target:Int
 list:Int
 seq:Int
 BR:Int
 number:Int
 err:Int
 slot:Int
 rank:Int
 epoch:Int
 data:ByteArray
 deriving DecidableEq,Inhabited
def Up.enc (x:Up):List D:=[.bool x.some,.bool x.new,.int .i64 x.BM,.int .i64 x.source,.int .i64 x.target,.int .i64 x.list,.int .i64 x.seq,.int .i64 x.BR,.int .i64 x.number,.int .i64 x.err,.int .i64 x.slot,.int .i64 x.rank,.int .i64 x.epoch,.str x.data]
def Up.cs (x:Up):List C:=[.d (.bool x.some),.d (.bool x.new),.d (.int .i64 x.BM),.d (.int .i64 x.source),.d (.int .i64 x.target),.d (.int .i64 x.list),.d (.int .i64 x.seq),.d (.int .i64 x.BR),.d (.int .i64 x.number),.d (.int .i64 x.err),.d (.int .i64 x.slot),.d (.int .i64 x.rank),.d (.int .i64 x.epoch),.d (.str x.data)]
abbrev upA (x:Up):AV:=.agg x.cs
abbrev ups (l:List Up):D:=Hj Up.enc 14 l
instance:Jq Up.enc:=⟨fun _=>rfl⟩
structure Rs where
 AH:Bool
 heard:Bool
 BM:Int
 source:Int
 target:Int
 list:Int
 seq:Int
 BR:Int
 number:Int
 err:Int
 slot:Int
 rank:Int
 epoch:Int
 data:ByteArray
 error:Int
 deriving DecidableEq,Inhabited
def Rs.enc (x:Rs):List D:=[.bool x.AH,.bool x.heard,.int .i64 x.BM,.int .i64 x.source,.int .i64 x.target,.int .i64 x.list,.int .i64 x.seq,.int .i64 x.BR,.int .i64 x.number,.int .i64 x.err,.int .i64 x.slot,.int .i64 x.rank,.int .i64 x.epoch,.str x.data,.int .i64 x.error]
def Rs.cs (x:Rs):List C:=[.d (.bool x.AH),.d (.bool x.heard),.d (.int .i64 x.BM),.d (.int .i64 x.source),.d (.int .i64 x.target),.d (.int .i64 x.list),.d (.int .i64 x.seq),.d (.int .i64 x.BR),.d (.int .i64 x.number),.d (.int .i64 x.err),.d (.int .i64 x.slot),.d (.int .i64 x.rank),.d (.int .i64 x.epoch),.d (.str x.data),.d (.int .i64 x.error)]
abbrev rsA (x:Rs):AV:=.agg x.cs
abbrev rss (l:List Rs):D:=Hj Rs.enc 15 l
instance:Jq Rs.enc:=⟨fun _=>rfl⟩
structure Sta where
 tb:Tb
 qu:Qu
 held:List Hd
 seen:List Sn
 list:Int
 seq:Int
 A6:Int
 tries:Int
 back:Int
 wait:Int
 Cq:Int
 deriving Inhabited
def Sta.cs (s:Sta):List C:=[.d (.int .i64 s.tb.node),.d (.int .i64 s.tb.len),.d (tcs s.tb.cells),.d (.int .i64 s.qu.Be),.d (pks s.qu.Ab),.d (hds s.held),.d (sns s.seen),
 .d (.int .i64 s.list),.d (.int .i64 s.seq),.d (.int .i64 s.A6),.d (.int .i64 s.tries),.d (.int .i64 s.back),.d (.int .i64 s.wait),.d (.int .i64 s.Cq)]
def Sta.enc (s:Sta):List D:=[.int .i64 s.tb.node,.int .i64 s.tb.len,tcs s.tb.cells,.int .i64 s.qu.Be,pks s.qu.Ab,hds s.held,sns s.seen,
 .int .i64 s.list,.int .i64 s.seq,.int .i64 s.A6,.int .i64 s.tries,.int .i64 s.back,.int .i64 s.wait,.int .i64 s.Cq]
abbrev stA (s:Sta):AV:=.agg s.cs
theorem B0 (n m:Int):Ak 63 [AI n,AI m] (AB (decide (0<=n/\n<=m))):=by
 refine Ao func63 ntmps63 results63 fun E hS=>?_
 repeat'(first|refine Ad ?_|(refine Av ?_ ?_<;>intro h hq)|fail)
 ·refine Aq Ae rfl ?_;exact decide_eq_decide.2 (by omega)
 ·refine Aq Ae rfl ?_;exact Ajv (by omega)
def AiA (l:List Int) (i:Nat):Bool:=decide (l.getD i default<0\/31<l.getD i default\/(0<i/\l.getD i default<=l.getD (i-1) default))
def C4 (l:List Int):Bool:=!((List.range l.length).any (AiA l))
theorem Te (l:List Int):Ak 213 [AD (ints l)] (AB (C4 l)):=by
 refine Ao func213 ntmps213 results213 fun E hS=>?_
 refine Bz (t:=0) rfl fun hb=>?_
 repeat'(first|refine Af ?_|fail)
 refine Ax (ι:=Nat) (fun k=>AN [(0,AD (ints l)),(5,AD (ints l)),(6,AI l.length),(7,AI k)] []) (fun k=>k<=l.length/\∀i,i<k->(AiA l) i=false) (fun k=>l.length-k) 0 ⟨Ake _,fun i hi=>absurd hi (Aj9 _)⟩ ?_ ?_
 ·exact Al
 ·intro k hk
  repeat'(first|refine Af ?_|refine Aa (B0 _ _) ?_|refine A5 ?_|refine BZ (gk rfl) rfl rfl rfl rfl rfl (by omega) rfl ?_|(refine Av ?_ ?_<;>intro h hq)|fail)
  all_goals first
   |(refine Aq Ae rfl ?_
     by_cases hlt:k<l.length
     ·first
      |(exfalso;omega)
      |(rw[C4,Hi (k:=k) hlt ?_]
        ·rfl
        ·refine Aju ?_
         first
         |omega
         |(omega))
     ·first
      |(exfalso;omega)
      |(have hk':k=l.length:=by omega
        subst hk';rw[C4,DB hk.2]
        rfl))
   |(refine⟨k+1,⟨by omega,fun i hi=>?_⟩,by omega,?_⟩
     ·by_cases hik:i<k
      ·exact hk.2 i hik
      ·have:i=k:=by omega
       subst this;refine Ajv ?_
       first
       |omega
       |(omega)
     ·exact Al
     )
   |trace_state
def Ex (h:Hd):Bool:=decide (0<=h.BR/\h.BR<=255/\0<=h.frame/\h.frame<=65535/\0<=h.til/\h.til<=109951162)&&C4 h.AH
theorem Tj (h:Hd):Ak 159 [hdA h] (AB (Ex h)):=by
 refine Ao func159 ntmps159 results159 fun E hS=>?_
 repeat'(first|refine Ad ?_|refine Aa (B0 _ _) ?_|refine Aa (Te _) ?_|(refine Av ?_ ?_<;>intro h hq)|fail)
 all_goals(refine Aq Ae rfl ?_;unfold Ex)
 ·rw[Aju (by omega)];rfl
 all_goals(rw[Ajv (by omega)];rfl)
def Xv (l:List Hd) (i:Nat):Bool:=decide (Ex (l.getD i default)=false\/100<(l.getD i default).data.size\/(0<i/\(l.getD i default).BR<=(l.getD (i-1) default).BR))
def F0 (l:List Hd):Bool:=!((List.range l.length).any (Xv l))&&decide ((l.length:Int)<=16)
theorem ME (l:List Hd):Ak 113 [AD (hds l)] (AB (F0 l)):=by
 refine Ao func113 ntmps113 results113 fun E hS=>?_
 refine Bz (t:=0) rfl fun hb=>?_
 repeat'(first|refine Af ?_|fail)
 refine Ax (ι:=Nat) (fun k=>AN [(0,AD (hds l)),(5,AD (hds l)),(6,AI l.length),(7,AI k)] []) (fun k=>k<=l.length/\∀i,i<k->(Xv l) i=false) (fun k=>l.length-k) 0 ⟨Ake _,fun i hi=>absurd hi (Aj9 _)⟩ ?_ ?_
 ·exact Al
 ·intro k hk
  repeat'(first|refine Af ?_|refine Aa (Tj _) ?_|refine A5 ?_|refine BZ (gk rfl) rfl rfl rfl rfl rfl (by omega) rfl ?_|(refine Av ?_ ?_<;>intro h hq)|fail)
  all_goals first
   |(refine Aq Ae rfl ?_
     by_cases hlt:k<l.length
     ·first
      |(exfalso;omega)
      |(rw[F0,Hi (k:=k) hlt ?_]
        ·rfl
        ·refine Aju ?_
         first
         |omega
         |(first|(refine .inl ?_;simp_all;done)|(refine .inr ?_;omega)|(simp_all;done)|(simp_all;omega)))
     ·first
      |(exfalso;omega)
      |(have hk':k=l.length:=by omega
        subst hk';rw[F0,DB hk.2]
        rfl))
   |(refine⟨k+1,⟨by omega,fun i hi=>?_⟩,by omega,?_⟩
     ·by_cases hik:i<k
      ·exact hk.2 i hik
      ·have:i=k:=by omega
       subst this;refine Ajv ?_
       first
       |omega
       |(first|(refine .inl ?_;simp_all;done)|(refine .inr ?_;omega)|(simp_all;done)|(simp_all;omega))
     ·exact Al
     )
   |trace_state
def Ace (l:List Sn) (i:Nat):Bool:=decide (¬(0<=(l.getD i default).node/\(l.getD i default).node<=31)\/¬(0<=(l.getD i default).seq/\(l.getD i default).seq<=255)\/(0<i/\(l.getD i default).node<=(l.getD (i-1) default).node))
def Gn (l:List Sn):Bool:=!((List.range l.length).any (Ace l))
theorem LY (l:List Sn):Ak 114 [AD (sns l)] (AB (Gn l)):=by
 refine Ao func114 ntmps114 results114 fun E hS=>?_
 refine Bz (t:=0) rfl fun hb=>?_
 repeat'(first|refine Af ?_|fail)
 refine Ax (ι:=Nat) (fun k=>AN [(0,AD (sns l)),(5,AD (sns l)),(6,AI l.length),(7,AI k)] []) (fun k=>k<=l.length/\∀i,i<k->(Ace l) i=false) (fun k=>l.length-k) 0 ⟨Ake _,fun i hi=>absurd hi (Aj9 _)⟩ ?_ ?_
 ·exact Al
 ·intro k hk
  repeat'(first|refine Af ?_|refine Aa (B0 _ _) ?_|refine A5 ?_|refine BZ (gk rfl) rfl rfl rfl rfl rfl (by omega) rfl ?_|(refine Av ?_ ?_<;>intro h hq)|fail)
  all_goals first
   |(refine Aq Ae rfl ?_
     by_cases hlt:k<l.length
     ·first
      |(exfalso;omega)
      |(rw[Gn,Hi (k:=k) hlt ?_]
        ·rfl
        ·refine Aju ?_
         first
         |omega
         |(omega))
     ·first
      |(exfalso;omega)
      |(have hk':k=l.length:=by omega
        subst hk';rw[Gn,DB hk.2]
        rfl))
   |(refine⟨k+1,⟨by omega,fun i hi=>?_⟩,by omega,?_⟩
     ·by_cases hik:i<k
      ·exact hk.2 i hik
      ·have:i=k:=by omega
       subst this;refine Ajv ?_
       first
       |omega
       |(omega)
     ·exact Al
     )
   |trace_state
theorem Zx (x:Pk) (t:Int):Ak 156 [pkA x,.ep (fun _=>.int .i64 t) 1] (AB (decide (x.id=t))):=by
 refine Ao func156 ntmps156 results156 fun E hS=>?_
 repeat'(first|refine Ad ?_|fail)
 all_goals exact AO
theorem AbK {σ:St} {t:Int} {n1:Nat} {L:List Nat} (hL:n1∈L) (h1:σ (.b n1)=some (.k (.box [.d (.int .i64 t)]))):AR Tryz.prog σ L (.fnc 156 [.ptr n1 0]) (.clo (Cg fun x=>decide (x.id=t))):=
 .fnc (eps:=[.ep (fun _=>.int .i64 t) 1]) (.cons (.ptr hL h1 (fun j hj=>by
  have:j=0:=by omega
  subst this;rfl)) .nil) (enters_of func156 (by kernel_rfl) rfl)
  (by rintro _ _ ⟨x,rfl,rfl⟩;exact⟨rfl,Zx x t⟩)
def hasB (l:List Pk) (id:Int):Bool:=l.any fun x=>decide (x.id=id)
theorem Pv (q:Qu) (id:Int):Ak 111 [quA q,AI id] (AB (hasB q.Ab id)):=by
 refine Ao func111 ntmps111 results111 fun E hS=>?_
 repeat'(first|refine Ad ?_|refine Cd [3] (KQ q.Ab (fun x=>decide (x.id=id))) (gk rfl) rfl (by(repeat'(first|exact .nil|refine .cons ?_ ?_|exact .of0 (.c .d)|exact(AbK (by simp) rfl)))<;>fail) (by rfl) rfl (by rfl) rfl (by rfl) rfl ?_|fail)
 all_goals exact AO
def VB (node:Int) (x:Pk):Bool:=decide (x.to=node\/100<x.data.size)
theorem Pc (x:Pk) (s:Sta):Ak 158 [pkA x,.ep (fun j=>s.enc.getD j .Df) 14] (AB (VB s.tb.node x)):=by
 refine Ao func158 ntmps158 results158 fun E hS=>?_
 repeat'(first|refine Ad ?_|(refine Av ?_ ?_<;>intro h hq)|fail)
 all_goals(refine Aq Ae rfl ?_;unfold VB)
 ·exact Aju (Or.inl (by assumption))
 ·exact decide_eq_decide.2 (by omega)
theorem QS {σ:St} {s:Sta} {n1:Nat} {L:List Nat} (hL:n1∈L) (h1:σ (.b n1)=some (.k (.box s.cs))):AR Tryz.prog σ L (.fnc 158 [.ptr n1 0]) (.clo (Cg (VB s.tb.node))):=
 .fnc (eps:=[.ep (fun j=>s.enc.getD j .Df) 14]) (.cons (.ptr hL h1 (fun j hj=>by
  have:j=0\/j=1\/j=2\/j=3\/j=4\/j=5\/j=6\/j=7\/j=8\/j=9\/j=10\/j=11\/j=12\/j=13:=by omega
  rcases this with rfl|rfl|rfl|rfl|rfl|rfl|rfl|rfl|rfl|rfl|rfl|rfl|rfl|rfl<;>rfl)) .nil) (enters_of func158 (by kernel_rfl) rfl)
  (by rintro _ _ ⟨x,rfl,rfl⟩;exact⟨rfl,Pc x s⟩)
def CS (s:Sta):Bool:=decide (Br s.qu=0)&&!(s.qu.Ab.any (VB s.tb.node))
theorem HJ (s:Sta):Ak 112 [stA s] (AB (CS s)):=by
 refine Ao func112 ntmps112 results112 fun E hS=>?_
 repeat'(first|refine Ad ?_|refine Aa (FQ _) ?_|refine Cd [1] (KQ s.qu.Ab (VB s.tb.node)) (gk rfl) rfl (by(repeat'(first|exact .nil|refine .cons ?_ ?_|exact .of0 (.c .d)|exact(QS (by simp) rfl)))<;>fail) (by rfl) rfl (by rfl) rfl (by rfl) rfl ?_|(refine Av ?_ ?_<;>intro h hq)|fail)
 all_goals(refine Aq Ae rfl ?_;unfold CS)
 ·rw[Aju (by assumption)];rfl
 ·rw[Ajv (by assumption)];rfl
def I4 (s:Sta):Bool:=decide ((s.A6=-1/\s.tries=0)\/(0<=s.A6/\hasB s.qu.Ab s.A6=true/\1<=s.tries/\s.tries<4))
def Ti (s:Sta):Bool:=decide (0<=s.list/\s.list<=255/\0<=s.seq/\s.seq<=255/\0<=s.back/\s.back<=5/\0<=s.wait/\s.wait<=2^s.back.toNat-1/\0<=s.Cq/\s.Cq<=2147483647)
def okS (s:Sta):Bool:=decide (BV s.tb=0)&&CS s&&F0 s.held&&Gn s.seen&&I4 s&&Ti s
def AU (s:Sta):Int:=if okS s=true then 0 else 1
theorem Bt {s:Sta} (h:¬BV s.tb=0\/CS s=false\/F0 s.held=false\/Gn s.seen=false\/I4 s=false\/Ti s=false):AU s=1:=by
 unfold AU okS;rcases h with h|h|h|h|h|h<;>simp[h]
theorem Ce {s:Sta} (h1:BV s.tb=0) (h2:CS s=true) (h3:F0 s.held=true) (h4:Gn s.seen=true) (h5:I4 s=true) (h6:Ti s=true):AU s=0:=by
 unfold AU okS;simp[h1,h2,h3,h4,h5,h6]
theorem Aei (b:Int):b<0\/5<b\/(1<=(2:Int)^b.toNat/\(2:Int)^b.toNat<=32):=by
 by_cases h1:b<0
 ·exact .inl h1
 by_cases h2:5<b
 ·exact .inr (.inl h2)
 refine .inr (.inr ?_);have:b=0\/b=1\/b=2\/b=3\/b=4\/b=5:=by omega
 rcases this with rfl|rfl|rfl|rfl|rfl|rfl<;>decide
theorem D1 (s:Sta):Ak 68 [stA s] (AI (AU s)):=by
 have hpow:s.back<0\/5<s.back\/(1<=(2:Int)^s.back.toNat/\(2:Int)^s.back.toNat<=32):=Aei s.back;refine Ao func68 ntmps68 results68 fun E hS=>?_
 cases htr:I4 s with
 |false=>
  have ht:=AjU htr
  repeat'(first|refine AJ ?_|refine Aa (B0 _ _) ?_|refine Aa (Pv s.qu _) ?_|refine Aa (EE s.tb) ?_|refine Aa (HJ s) ?_|refine Aa (ME _) ?_|refine Aa (LY _) ?_|refine sq 4 rfl ?_|(refine Av ?_ ?_<;>intro h hq)|fail)
  all_goals first
   |(refine Aw Ae rfl ?_
     exact Bt (.inr (.inr (.inr (.inr (.inl htr))))))
   |(exfalso;simp_all;done)
   |(exfalso;simp_all;omega)
 |true=>
  have ht:=AjT htr;rcases ht with⟨h1,h2⟩|⟨h1,h2,h3,h4⟩
  ·have d1:decide (s.A6=-1)=true:=Aju h1;have d2:decide (s.tries=0)=true:=Aju h2
   repeat'(first|refine Ad ?_|refine Aa (B0 _ _) ?_|refine Aa (EE s.tb) ?_|refine Aa (HJ s) ?_|refine Aa (ME _) ?_|refine Aa (LY _) ?_|refine LI (gk rfl) rfl rfl (by omega) rfl (by omega) ?_|(refine Av ?_ ?_<;>intro h hq)|fail)
   all_goals
    refine Aw Ae rfl ?_
    first
    |(refine Bt (.inl ?_);assumption)
    |(refine Bt (.inr (.inl ?_));assumption)
    |(refine Bt (.inr (.inr (.inl ?_)));assumption)
    |(refine Bt (.inr (.inr (.inr (.inl ?_))));assumption)
    |(refine Bt (.inr (.inr (.inr (.inr (.inr ?_)))));refine Ajv ?_;omega)
    |(refine Ce ?_ ?_ ?_ ?_ ?_ ?_
      ·assumption
      ·assumption
      ·assumption
      ·assumption
      ·assumption
      ·refine Aju ?_;omega)
  ·have d1:=Cc (s.A6=-1);have d3:decide (0<=s.A6)=true:=Aju h1;have d5:decide (1<=s.tries)=true:=Aju h3;have d6:decide (s.tries<4)=true:=Aju h4;have d7:(!decide (s.tries<4))=false:=by rw[d6];rfl
   repeat'(first|refine Ad ?_|refine Aa (B0 _ _) ?_|refine Aa (Pv s.qu _) ?_|refine Aa (EE s.tb) ?_|refine Aa (HJ s) ?_|refine Aa (ME _) ?_|refine Aa (LY _) ?_|refine LI (gk rfl) rfl rfl (by omega) rfl (by omega) ?_|(refine Av ?_ ?_<;>intro h hq)|fail)
   all_goals
    refine Aw Ae rfl ?_
    first
    |(refine Bt (.inl ?_);assumption)
    |(refine Bt (.inr (.inl ?_));assumption)
    |(refine Bt (.inr (.inr (.inl ?_)));assumption)
    |(refine Bt (.inr (.inr (.inr (.inl ?_))));assumption)
    |(refine Bt (.inr (.inr (.inr (.inr (.inr ?_)))));refine Ajv ?_;omega)
    |(refine Ce ?_ ?_ ?_ ?_ ?_ ?_
      ·assumption
      ·assumption
      ·assumption
      ·assumption
      ·assumption
      ·refine Aju ?_;omega)
end Go.Proofs
namespace Go.Proofs.Q
open Go Go.Sx
structure OkQ (lim:Int) (l:List Pk):Prop where
 bnd:1<=lim/\lim<=64
 len:(l.length:Int)<=lim
 form:∀x∈l,Eo x=0
 pair:l.Pairwise fun x y=>x.id≠y.id/\x.prio<=y.prio
theorem Jj {l:List Pk} {k:Nat} (h:k<l.length):l.getD k default=l[k]:=by
 rw[Ajt,AjC h];rfl
theorem YJ {q:Qu} (h:Br q=0):OkQ q.Be q.Ab:=by
 obtain⟨h1,h2,h3⟩:=B9 h;refine⟨⟨h1,h2⟩,h3,fun x hx=>?_,List.pairwise_iff_getElem.2 fun i j hi hj hij=>?_⟩
 ·obtain⟨k,hk,rfl⟩:=CI hx;exact(El h hk).1
 ·rw[<-Jj hi,<-Jj hj];refine⟨M9 h hi hj (by omega),?_⟩;have key:∀d,i+d<q.Ab.length->(q.Ab.getD i default).prio<=(q.Ab.getD (i+d) default).prio:=by
   intro d
   induction d with
   |zero=>intro _;exact Int.le_refl _
   |succ d ih=>
    intro hd;have h4:=(El h hd).2.2 (by omega);rw[show i+(d+1)-1=i+d by omega] at h4;exact Int.le_trans (ih (by omega)) h4
  have:=key (j-i) (by omega)
  rwa [show i+(j-i)=j by omega] at this
theorem QW {lim:Int} {l:List Pk} (h:OkQ lim l):Br ⟨lim,l⟩=0:=by
 unfold Br;have h1:=h.bnd;have h2:=h.len;rw[Akb (by simp only[inI];simp;omega),Akb (by dsimp only;omega)];refine De fun k hk=>?_
 dsimp only at hk ⊢;have hp:=List.pairwise_iff_getElem.1 h.pair;unfold Ho;rw[Akb (by simp only[ne_eq,AjF];exact h.form _ (BS hk)),Akb ?_,Akb ?_]
 ·rintro⟨h0,h3⟩;have:=(hp (k-1) k (by omega) hk (by omega)).2;rw[Jj hk,Jj (show k-1<l.length by omega)] at h3;omega
 ·intro ha;rw[AjM] at ha;obtain⟨x,hx,he⟩:=ha;obtain⟨i,hi,hil,rfl⟩:=CU hx;have:=(hp i k hil hk hi).1;rw[Jj hk,Jj hil] at he;exact this (AjT he)
theorem OkQ.sub {lim:Int} {l m:List Pk} (h:OkQ lim l) (hs:m.Sublist l):OkQ lim m:=
 ⟨h.bnd,by have:=h.len;have:=hs.length_le;omega,fun x hx=>h.form x (hs.subset hx),h.pair.sublist hs⟩
def Sw (l:List Pk):List Int:=l.map Pk.id
theorem Il (l:List Pk) (i:Nat) (p:Pk):(BA l i p).Perm (p :: l):=by
 unfold BA;exact(List.perm_middle).trans (by rw[AjS])
theorem YK {lim:Int} {l:List Pk} {p:Pk} (h:OkQ lim l) (hp:Eo p=0) (hi:p.id∉Sw l) (hl:(l.length:Int)+1<=lim):OkQ lim (BA l (atP l p.prio) p):=by
 have hpw:=List.pairwise_iff_getElem.1 h.pair;have hne:∀x∈l,x.id≠p.id:=fun x hx e=>hi (Aj5.2 ⟨x,hx,e⟩)
 have hlo:∀x∈l.take (atP l p.prio),x.prio<=p.prio:=fun x hx=>by
  obtain⟨k,hk,hkl,rfl⟩:=CU hx;unfold atP at hk;cases hf:Ft l fun x=>decide (p.prio<x.prio) with
  |none=>
   have:=AjU (EB hf _ (BS hkl));omega
  |some j=>
   rw[hf] at hk;have:=AjU ((Bs hf).2.2 k hk);omega
 have hhi:∀y∈l.drop (atP l p.prio),p.prio<=y.prio:=fun y hy=>by
  unfold atP at hy;cases hf:Ft l fun x=>decide (p.prio<x.prio) with
  |none=>rw[hf] at hy;simp at hy
  |some j=>
   rw[hf] at hy;obtain⟨hj,hpj,_⟩:=Bs hf;have hpj:=AjT hpj;obtain⟨k,hk,rfl⟩:=AkG hy;rw[AkH,AjG] at hk;simp only[AkH,List.getElem_drop];rw[Jj hj] at hpj;rcases Ak9 k with rfl|h0
   ·simp only[AkX];omega
   ·have:=(hpw j (j+k) hj (by omega) (by omega)).2;omega
 refine⟨h.bnd,by rw[(Il l _ p).length_eq,Akx];omega,fun x hx=>?_,?_⟩
 ·rcases AjO.1 ((Il l _ p).mem_iff.1 hx) with rfl|hx
  ·exact hp
  ·exact h.form x hx
 ·unfold BA;rw[List.pairwise_append];refine⟨h.pair.sublist (List.take_sublist _ _),List.pairwise_cons.2 ⟨fun y hy=>⟨fun e=>hne y (Akz hy) e.symm,hhi y hy⟩,h.pair.sublist (List.drop_sublist _ _)⟩,fun x hx y hy=>?_⟩;rcases AjO.1 hy with rfl|hy
  ·exact⟨hne x (Akj hx),hlo x hx⟩
  ·have hp2:=h.pair;rw[<-AjS (atP l p.prio) l,List.pairwise_append] at hp2;exact hp2.2.2 x hx y hy
theorem Aeh {q:Qu} {p:Pk} (hc:Br q=0) (h:(DP q p).2.2=0):p.id∉Sw q.Ab/\(DP q p).1.Be=q.Be/\OkQ q.Be (DP q p).1.Ab /\
  (Sw (DP q p).2.1++Sw (DP q p).1.Ab).Perm (p.id :: Sw q.Ab):=by
 have hok:=YJ hc;have hl:=B9 hc;unfold DP at h ⊢;rw[Akb (by omega)] at h ⊢;by_cases hf:Eo p=0
 ·rw[Akb (by omega)] at h ⊢;by_cases ha:(q.Ab.any fun x=>decide (x.id=p.id))=true
  ·rw[Akc ha] at h;cases h
  ·rw[Akb ha] at h ⊢;have hi:p.id∉Sw q.Ab:=fun hm=>by
    obtain⟨x,hx,e⟩:=Aj5.1 hm;exact ha (AjM.2 ⟨x,hx,Aju e⟩)
   by_cases hfull:(q.Ab.length:Int)=q.Be
   ·rw[Akc hfull] at h ⊢;by_cases hpr:(q.Ab.getD (q.Ab.length-1) default).prio<=p.prio
    ·rw[Akc hpr] at h;cases h
    ·rw[Akb hpr];have hsub:OkQ q.Be (q.Ab.take (q.Ab.length-1)):=hok.sub (List.take_sublist _ _);have hi':p.id∉Sw (q.Ab.take (q.Ab.length-1)):=fun hm=>by
      obtain⟨x,hx,e⟩:=Aj5.1 hm;exact hi (Aj5.2 ⟨x,Akj hx,e⟩)
     refine⟨hi,rfl,YK hsub hf hi' (by rw[AjD];omega),?_⟩;have e1:q.Ab.take (q.Ab.length-1)++[q.Ab.getD (q.Ab.length-1) default]=q.Ab:=by
      have:=Bq (l:=q.Ab) (i:=q.Ab.length-1) (by omega);rw[<-this,Aj1 (by omega)]
     have h2:(Sw (BA (q.Ab.take (q.Ab.length-1)) (atP (q.Ab.take (q.Ab.length-1)) p.prio) p)).Perm (p.id :: Sw (q.Ab.take (q.Ab.length-1))):=(Il _ _ p).map Pk.id;have h3:(Sw [q.Ab.getD (q.Ab.length-1) default]++Sw (q.Ab.take (q.Ab.length-1))).Perm (Sw q.Ab):=by
      have:(Sw (q.Ab.take (q.Ab.length-1))++Sw [q.Ab.getD (q.Ab.length-1) default])=Sw q.Ab:=by unfold Sw;rw[<-Akl,e1]
      rw[<-this];exact List.perm_append_comm
     exact(h2.append_left _).trans (List.perm_middle.trans (h3.cons _))
   ·rw[Akb hfull];refine⟨hi,rfl,YK hok hf hi (by omega),?_⟩;exact(Il _ _ p).map Pk.id
 ·rw[Akc hf] at h;exact absurd h hf
theorem Rm {l:List Pk} {i:Nat} {p x:Pk} (h:x∈BA l i p):x=p\/x∈l:=by
 unfold BA at h;rcases List.mem_append.1 h with h|h
 ·exact .inr (Akj h)
 ·rcases AjO.1 h with h|h
  ·exact .inl h
  ·exact .inr (Akz h)
theorem Abk {q:Qu} {p x:Pk} (hc:Br q=0) (h:(DP q p).2.2=0) (hx:x∈(DP q p).1.Ab):x=p\/x∈q.Ab:=by
 unfold DP at h hx;rw[Akb (by omega)] at h hx;by_cases hf:Eo p=0
 ·rw[Akb (by omega)] at h hx;by_cases ha:(q.Ab.any fun x=>decide (x.id=p.id))=true
  ·rw[Akc ha] at h;cases h
  ·rw[Akb ha] at h hx;by_cases hfull:(q.Ab.length:Int)=q.Be
   ·rw[Akc hfull] at h hx;by_cases hpr:(q.Ab.getD (q.Ab.length-1) default).prio<=p.prio
    ·rw[Akc hpr] at h;cases h
    ·rw[Akb hpr] at hx;rcases Rm hx with h1|h1
     ·exact .inl h1
     ·exact .inr (Akj h1)
   ·rw[Akb hfull] at hx;exact Rm hx
 ·rw[Akc hf] at h;exact absurd h hf
end Go.Proofs.Q
