/-
  Functions' results, and laws on them. No condition.
-/
import Derived.Test.YtdlcbilgemnomaaGreatSxMam
import Derived.Test.YtdlcbilgemnomaaGreatSxMan
set_option linter.unusedSimpArgs false
set_option linter.unusedVariables false
set_option maxRecDepth 4000
set_option maxHeartbeats 16000000
open Go.Proofs.Tryz
namespace Go.Proofs
open Go Go.Sx Go.Proofs.T Go.Proofs.Q
attribute [local irreducible] VR VC thenQ blockQ retL
def Ju (s:Sta) (c:TC):Sta:=if(EF s).isSome=true/\c.kind=3 then{s with wait:=s.wait-1} else s
def Ack (s:Sta) (a:Ac):Sta:=match Kv s.held a.BR with
 |none=>s
 |some i=>{s with held:=s.held.set i {s.held.getD i default with AH:=GI id (s.held.getD i default).AH a.target}}
def Cp (s:Sta) (slot:Int) (c:TC) (r:Rs):Sta×Up:=
 if(CA s slot c).kind=1/\(CA s slot c).BM=1 then(if r.AH=true then Ack s (CA s slot c) else s,zUp)
 else if(CA s slot c).kind=1 then(Cm s c r.AH,zUp)
 else if(CA s slot c).kind=2 then if r.heard=true then BE (Ju s c) (IH r) else(Ju s c,zUp)
 else(s,zUp)
def ED (s:Sta) (slot:Int) (r:Rs):Sta×Up×Int:=if AU s≠0 then(noS,zUp,1) else if ¬(0<=slot/\slot<=109951162) then(noS,zUp,2) else((Cp s slot (atM s.tb slot).1 r).1,(Cp s slot (atM s.tb slot).1 r).2,0)
theorem AbZ (s:Sta) (slot:Int) (r:Rs) (hck:¬AU s=0):Ak 130 [stA s,AI slot,rsA r] (.tup [stA noS,upA zUp,AI 1]):=by
 refine Ao func130 ntmps130 results130 fun E hS=>?_
 refine AG ?_
 repeat'(first|refine Ad ?_|refine Aa (Qn s slot hck) ?_|fail)
 exact Ag (Al (l:=[(6,.c (.ptr 6 0)),(7,.c (.ptr 7 0)),(8,AI 1)]) (b:=[(6,.box noS.cs),(7,.box zUp.cs)])) AE
theorem Xg (s:Sta) (slot:Int) (r:Rs) (hck:AU s=0) (hs:¬(0<=slot/\slot<=109951162)):Ak 130 [stA s,AI slot,rsA r] (.tup [stA noS,upA zUp,AI 2]):=by
 refine Ao func130 ntmps130 results130 fun E hS=>?_
 refine AG ?_
 repeat'(first|refine Ad ?_|refine Aa (LV s slot hck hs) ?_|fail)
 exact Ag (Al (l:=[(6,.c (.ptr 6 0)),(7,.c (.ptr 7 0)),(8,AI 2)]) (b:=[(6,.box noS.cs),(7,.box zUp.cs)])) AE
theorem Pu (s:Sta) (f:Fr):stA (BE s f).1=.agg ((BE s f).1.csR (.d (hds s.held)) (.d (sns (BE s f).1.seen))):=by
 have h:(BE s f).1.held=s.held:=by
  unfold BE
  repeat' split
  all_goals rfl
 rw[<-h];rfl
theorem Z1 (s:Sta) (slot:Int) (r:Rs) (hck:AU s=0) (hs:0<=slot/\slot<=109951162) (hna:¬((CA s slot (atM s.tb slot).1).kind=1/\(CA s slot (atM s.tb slot).1).BM=1/\r.AH=true)):
  Ak 130 [stA s,AI slot,rsA r] (.tup [stA (Cp s slot (atM s.tb slot).1 r).1,upA (Cp s slot (atM s.tb slot).1 r).2,AI 0]):=by
 obtain⟨_,_,_,_,hsn,_,hrb⟩:=Ba hck;have hrb:=EI hrb;have hpw:=(Aei s.back).resolve_left (by omega) |>.resolve_left (by omega);refine Ao func130 ntmps130 results130 fun E hS=>?_
 refine AG ?_
 repeat'(first|refine AJ ?_|refine Aa (H4 s slot hck hs) ?_|refine sq 4 rfl ?_|fail)
 all_goals try (exfalso;omega)
 generalize atM s.tb slot=ac at hna ⊢;obtain⟨c,ok⟩:=ac;dsimp only at hna ⊢;refine VC.le (σ':=AN [(5,.c (.ptr 5 0)),(6,.c (.ptr 6 0)),(7,.c (.ptr 7 0)),(8,AI 0),(9,.c (.ptr 100 0))] [(5,.box r.cs),(6,.box noS.cs),(7,.box zUp.cs),(100,.box (wcs s (.d (hds s.held)) (.row 102 s.seen.length) slot c)),(102,.row 123 2 (rowOf Sn.enc s.seen))]) ?_ ?_
 ·exact Cu (fun n=>if n=100 then 19100 else if n=102 then 19102 else n) [19101] hS
 by_cases k1:(CA s slot c).kind=1
 ·have d1:=Aju k1;by_cases k2:(CA s slot c).BM=1
  ·have d2:=Aju k2;have hac:r.AH=false:=by
    cases h:r.AH with
    |true=>exact absurd ⟨k1,k2,h⟩ hna
    |false=>rfl
   have e:Cp s slot c r=(s,zUp):=by rw[Cp,Akc ⟨k1,k2⟩,Akb (by rw[hac];simp)]
   rw[e]
   repeat'(first|refine Af ?_|refine AK [100,102] (CH s slot c hck) ?_|fail)
   exact Ag (Cu (l:=[(6,.c (.ptr 6 0)),(7,.c (.ptr 7 0)),(8,AI 0)]) (b:=[(6,.box s.cs),(7,.box zUp.cs)]) (fun n=>n) [102] hS) AE
  ·have d2:=Ajv k2;have e:Cp s slot c r=(Cm s c r.AH,zUp):=by rw[Cp,Akb (fun h=>k2 h.2),Akc k1]
   rw[e];have ht:(Cm s c r.AH).seen=s.seen/\(Cm s c r.AH).held=s.held:=by
    unfold Cm TZ Nm Fi
    repeat' split
    all_goals exact⟨rfl,rfl⟩
   have e3:stA (Cm s c r.AH)=.agg ((Cm s c r.AH).csR (.d (hds s.held)) (.d (sns s.seen))):=by rw[<-ht.1,<-ht.2];rfl
   rw[show(Cm s c r.AH,zUp).1=Cm s c r.AH from rfl,e3]
   repeat'(first|refine Af ?_|refine AK [100,102] (CH s slot c hck) ?_|refine A1 (nmL []) [] [100,102] (V2 s slot c r.AH hck) ?_|fail)
   exact Ag (Cu (l:=[(6,.c (.ptr 6 0)),(7,.c (.ptr 7 0)),(8,AI 0)]) (b:=[(6,.box ((Cm s c r.AH).csR (.d (hds s.held)) (.d (sns s.seen)))),(7,.box zUp.cs)]) (fun n=>n) [102] hS) AE
 ·have d1:=Ajv k1;by_cases k3:(CA s slot c).kind=2
  ·have d3:=Aju k3;by_cases hw:(EF s).isSome=true/\c.kind=3
   ·have hw':Ju s c={s with wait:=s.wait-1}:=Akc hw;have d5:(EF s).isSome=true:=hw.1;have d6:decide (c.kind=3)=true:=Aju hw.2;cases hh:r.heard with
    |false=>
     have e:Cp s slot c r=({s with wait:=s.wait-1},zUp):=by rw[Cp,Akb (fun h=>k1 h.1),Akb k1,Akc k3,Akb (by rw[hh];simp),hw']
     rw[e]
     repeat'(first|refine Af ?_|refine AK [100,102] (CH s slot c hck) ?_|refine AK [100,102] (Cw s slot c) ?_|fail)
     all_goals first
      |(exfalso;omega)
      |(exfalso;simp_all;done)
      |skip
     exact Ag (Cu (l:=[(6,.c (.ptr 6 0)),(7,.c (.ptr 7 0)),(8,AI 0)]) (b:=[(6,.box (Sta.cs {s with wait:=s.wait-1})),(7,.box zUp.cs)]) (fun n=>n) [102] hS) AE
    |true=>
     have e:Cp s slot c r=BE {s with wait:=s.wait-1} (IH r):=by rw[Cp,Akb (fun h=>k1 h.1),Akb k1,Akc k3,Akc hh,hw']
     have e3:=Pu {s with wait:=s.wait-1} (IH r);rw[e];rw[e3]
     repeat'(first|refine Af ?_|refine AK [100,102] (CH s slot c hck) ?_|refine AK [100,102] (Cw s slot c) ?_|refine A1 (nmL []) [] [100] (DF {s with wait:=s.wait-1} slot c (IH r) hsn) ?_|fail)
     all_goals first
      |(exfalso;omega)
      |(exfalso;simp_all;done)
      |skip
     exact Ag (Cu (l:=[(6,.c (.ptr 6 0)),(7,.c (.ptr 7 0)),(8,AI 0)]) (b:=[(6,.box ((BE {s with wait:=s.wait-1} (IH r)).1.csR (.d (hds s.held)) (.d (sns (BE {s with wait:=s.wait-1} (IH r)).1.seen)))),(7,.box (BE {s with wait:=s.wait-1} (IH r)).2.cs)]) (fun n=>n) [104103] hS) AE
   ·have hw':Ju s c=s:=Akb hw;cases d5:(EF s).isSome with
    |false=>
     cases hh:r.heard with
     |false=>
      have e:Cp s slot c r=(s,zUp):=by rw[Cp,Akb (fun h=>k1 h.1),Akb k1,Akc k3,Akb (by rw[hh];simp),hw']
      rw[e]
      repeat'(first|refine Af ?_|refine AK [100,102] (CH s slot c hck) ?_|refine AK [100,102] (Cw s slot c) ?_|fail)
      all_goals first
       |(exfalso;omega)
       |(exfalso;simp_all;done)
       |skip
      exact Ag (Cu (l:=[(6,.c (.ptr 6 0)),(7,.c (.ptr 7 0)),(8,AI 0)]) (b:=[(6,.box (Sta.cs s)),(7,.box zUp.cs)]) (fun n=>n) [102] hS) AE
     |true=>
      have e:Cp s slot c r=BE s (IH r):=by rw[Cp,Akb (fun h=>k1 h.1),Akb k1,Akc k3,Akc hh,hw']
      have e3:=Pu s (IH r);rw[e];rw[e3]
      repeat'(first|refine Af ?_|refine AK [100,102] (CH s slot c hck) ?_|refine AK [100,102] (Cw s slot c) ?_|refine A1 (nmL []) [] [100] (DF s slot c (IH r) hsn) ?_|fail)
      all_goals first
       |(exfalso;omega)
       |(exfalso;simp_all;done)
       |skip
      exact Ag (Cu (l:=[(6,.c (.ptr 6 0)),(7,.c (.ptr 7 0)),(8,AI 0)]) (b:=[(6,.box ((BE s (IH r)).1.csR (.d (hds s.held)) (.d (sns (BE s (IH r)).1.seen)))),(7,.box (BE s (IH r)).2.cs)]) (fun n=>n) [104103] hS) AE
    |true=>
     have d6:decide (c.kind=3)=false:=Ajv fun h=>hw ⟨d5,h⟩
     cases hh:r.heard with
     |false=>
      have e:Cp s slot c r=(s,zUp):=by rw[Cp,Akb (fun h=>k1 h.1),Akb k1,Akc k3,Akb (by rw[hh];simp),hw']
      rw[e]
      repeat'(first|refine Af ?_|refine AK [100,102] (CH s slot c hck) ?_|refine AK [100,102] (Cw s slot c) ?_|fail)
      all_goals first
       |(exfalso;omega)
       |(exfalso;simp_all;done)
       |skip
      exact Ag (Cu (l:=[(6,.c (.ptr 6 0)),(7,.c (.ptr 7 0)),(8,AI 0)]) (b:=[(6,.box (Sta.cs s)),(7,.box zUp.cs)]) (fun n=>n) [102] hS) AE
     |true=>
      have e:Cp s slot c r=BE s (IH r):=by rw[Cp,Akb (fun h=>k1 h.1),Akb k1,Akc k3,Akc hh,hw']
      have e3:=Pu s (IH r);rw[e];rw[e3]
      repeat'(first|refine Af ?_|refine AK [100,102] (CH s slot c hck) ?_|refine AK [100,102] (Cw s slot c) ?_|refine A1 (nmL []) [] [100] (DF s slot c (IH r) hsn) ?_|fail)
      all_goals first
       |(exfalso;omega)
       |(exfalso;simp_all;done)
       |skip
      exact Ag (Cu (l:=[(6,.c (.ptr 6 0)),(7,.c (.ptr 7 0)),(8,AI 0)]) (b:=[(6,.box ((BE s (IH r)).1.csR (.d (hds s.held)) (.d (sns (BE s (IH r)).1.seen)))),(7,.box (BE s (IH r)).2.cs)]) (fun n=>n) [104103] hS) AE
  ·have d3:=Ajv k3;have e:Cp s slot c r=(s,zUp):=by rw[Cp,Akb (fun h=>k1 h.1),Akb k1,Akb k3]
   rw[e]
   repeat'(first|refine Af ?_|refine AK [100,102] (CH s slot c hck) ?_|fail)
   exact Ag (Cu (l:=[(6,.c (.ptr 6 0)),(7,.c (.ptr 7 0)),(8,AI 0)]) (b:=[(6,.box s.cs),(7,.box zUp.cs)]) (fun n=>n) [102] hS) AE
end Go.Proofs
namespace Go.Proofs.M
open Go Go.Sx Go.Proofs Go.Proofs.T Go.Proofs.Q
open Go.Proofs.P (Nb nbs Rk rkA rkErr checkNb hearM countM forgetM select')
open Go.Proofs.R (startM advM)
attribute [local irreducible] VR VC thenQ blockQ retL
structure Ar where
 origin:Int
 id:Int
 slot:Int
 deriving DecidableEq,Inhabited
def Ar.enc (x:Ar):List D:=[.int .i64 x.origin,.int .i64 x.id,.int .i64 x.slot]
def Ar.cs (x:Ar):List C:=[.d (.int .i64 x.origin),.d (.int .i64 x.id),.d (.int .i64 x.slot)]
abbrev arA (x:Ar):AV:=.agg x.cs
abbrev ars (l:List Ar):D:=Hj Ar.enc 3 l
theorem AiD {x y:Ar} (h:[SV.int IntKind.i64 x.slot,SV.int IntKind.i64 x.id,SV.int IntKind.i64 x.origin].reverse=[SV.int IntKind.i64 y.slot,SV.int IntKind.i64 y.id,SV.int IntKind.i64 y.origin].reverse):x=y:=by
 have h:=List.reverse_inj.1 h;cases x;cases y;simp only[Ak6,SV.int.injEq,SV.bool.injEq,SV.str.injEq,true_and,and_true] at h;obtain⟨rfl,rfl,rfl⟩:=h
 rfl
instance:Jq Ar.enc:=⟨fun _=>rfl⟩
structure Ld where
 node:Int
 slot:Int
 deriving DecidableEq,Inhabited
def Ld.enc (x:Ld):List D:=[.int .i64 x.node,.int .i64 x.slot]
def Ld.cs (x:Ld):List C:=[.d (.int .i64 x.node),.d (.int .i64 x.slot)]
abbrev ldA (x:Ld):AV:=.agg x.cs
abbrev lds (l:List Ld):D:=Hj Ld.enc 2 l
instance:Jq Ld.enc:=⟨fun _=>rfl⟩
structure Si where
 src:Int
 dst:Int
 first:Int
 til:Int
 deriving DecidableEq,Inhabited
def Si.enc (x:Si):List D:=[.int .i64 x.src,.int .i64 x.dst,.int .i64 x.first,.int .i64 x.til]
def Si.cs (x:Si):List C:=[.d (.int .i64 x.src),.d (.int .i64 x.dst),.d (.int .i64 x.first),.d (.int .i64 x.til)]
abbrev siA (x:Si):AV:=.agg x.cs
abbrev sis (l:List Si):D:=Hj Si.enc 4 l
instance:Jq Si.enc:=⟨fun _=>rfl⟩
structure Sp where
 slot:Int
 offset:Int
 deriving DecidableEq,Inhabited
def Sp.enc (x:Sp):List D:=[.int .i64 x.slot,.int .i64 x.offset]
def Sp.cs (x:Sp):List C:=[.d (.int .i64 x.slot),.d (.int .i64 x.offset)]
abbrev spA (x:Sp):AV:=.agg x.cs
abbrev sps (l:List Sp):D:=Hj Sp.enc 2 l
theorem Agi {x y:Sp} (h:[SV.int IntKind.i64 x.offset,SV.int IntKind.i64 x.slot].reverse=[SV.int IntKind.i64 y.offset,SV.int IntKind.i64 y.slot].reverse):x=y:=by
 have h:=List.reverse_inj.1 h;cases x;cases y;simp only[Ak6,SV.int.injEq,SV.bool.injEq,SV.str.injEq,true_and,and_true] at h;obtain⟨rfl,rfl⟩:=h
 rfl
instance:Jq Sp.enc:=⟨fun _=>rfl⟩
structure MN where
 st:Sta
 rk:Rk
 nb:List Nb
 next:Int
 deriving Inhabited
def MN.cs (x:MN):List C:=[.d (.int .i64 x.st.tb.node),.d (.int .i64 x.st.tb.len),.d (tcs x.st.tb.cells),.d (.int .i64 x.st.qu.Be),.d (pks x.st.qu.Ab),.d (hds x.st.held),.d (sns x.st.seen),
 .d (.int .i64 x.st.list),.d (.int .i64 x.st.seq),.d (.int .i64 x.st.A6),.d (.int .i64 x.st.tries),.d (.int .i64 x.st.back),.d (.int .i64 x.st.wait),.d (.int .i64 x.st.Cq),
 .d (.int .i64 x.rk.node),.d (.int .i64 x.rk.epoch),.d (.int .i64 x.rk.parent),.d (.int .i64 x.rk.heard),.d (.int .i64 x.rk.rank),.d (.int .i64 x.rk.least),.d (nbs x.nb),.d (.int .i64 x.next)]
def MN.enc (x:MN):List D:=[.int .i64 x.st.tb.node,.int .i64 x.st.tb.len,tcs x.st.tb.cells,.int .i64 x.st.qu.Be,pks x.st.qu.Ab,hds x.st.held,sns x.st.seen,
 .int .i64 x.st.list,.int .i64 x.st.seq,.int .i64 x.st.A6,.int .i64 x.st.tries,.int .i64 x.st.back,.int .i64 x.st.wait,.int .i64 x.st.Cq,
 .int .i64 x.rk.node,.int .i64 x.rk.epoch,.int .i64 x.rk.parent,.int .i64 x.rk.heard,.int .i64 x.rk.rank,.int .i64 x.rk.least,nbs x.nb,.int .i64 x.next]
abbrev mnA (x:MN):AV:=.agg x.cs
abbrev mns (l:List MN):D:=Hj MN.enc 22 l
structure Me where
 nodes:List MN
 slot:Int
 turns:Int
 arr:List Ar
 deriving Inhabited
def Me.cs (m:Me):List C:=[.d (mns m.nodes),.d (.int .i64 m.slot),.d (.int .i64 m.turns),.d (ars m.arr)]
def Me.enc (m:Me):List D:=[mns m.nodes,.int .i64 m.slot,.int .i64 m.turns,ars m.arr]
abbrev meA (m:Me):AV:=.agg m.cs
structure Wk where
 nd:MN
 node:Int
 ac:Ac
 bc:Bool
 rs:Rs
 up:Up
 deriving Inhabited
def Wk.cs (w:Wk):List C:=[.d (.int .i64 w.nd.st.tb.node),.d (.int .i64 w.nd.st.tb.len),.d (tcs w.nd.st.tb.cells),.d (.int .i64 w.nd.st.qu.Be),.d (pks w.nd.st.qu.Ab),.d (hds w.nd.st.held),.d (sns w.nd.st.seen),
 .d (.int .i64 w.nd.st.list),.d (.int .i64 w.nd.st.seq),.d (.int .i64 w.nd.st.A6),.d (.int .i64 w.nd.st.tries),.d (.int .i64 w.nd.st.back),.d (.int .i64 w.nd.st.wait),.d (.int .i64 w.nd.st.Cq),
 .d (.int .i64 w.nd.rk.node),.d (.int .i64 w.nd.rk.epoch),.d (.int .i64 w.nd.rk.parent),.d (.int .i64 w.nd.rk.heard),.d (.int .i64 w.nd.rk.rank),.d (.int .i64 w.nd.rk.least),.d (nbs w.nd.nb),.d (.int .i64 w.nd.next),
 .d (.int .i64 w.node),
 .d (.int .i64 w.ac.kind),.d (.int .i64 w.ac.offset),.d (.int .i64 w.ac.BM),.d (.int .i64 w.ac.source),.d (.int .i64 w.ac.target),.d (.int .i64 w.ac.list),.d (.int .i64 w.ac.seq),.d (.int .i64 w.ac.BR),.d (.int .i64 w.ac.number),.d (.int .i64 w.ac.err),.d (.int .i64 w.ac.slot),.d (.int .i64 w.ac.rank),.d (.int .i64 w.ac.epoch),.d (.str w.ac.data),
 .d (.bool w.bc),
 .d (.bool w.rs.AH),.d (.bool w.rs.heard),.d (.int .i64 w.rs.BM),.d (.int .i64 w.rs.source),.d (.int .i64 w.rs.target),.d (.int .i64 w.rs.list),.d (.int .i64 w.rs.seq),.d (.int .i64 w.rs.BR),.d (.int .i64 w.rs.number),.d (.int .i64 w.rs.err),.d (.int .i64 w.rs.slot),.d (.int .i64 w.rs.rank),.d (.int .i64 w.rs.epoch),.d (.str w.rs.data),.d (.int .i64 w.rs.error),
 .d (.bool w.up.some),.d (.bool w.up.new),.d (.int .i64 w.up.BM),.d (.int .i64 w.up.source),.d (.int .i64 w.up.target),.d (.int .i64 w.up.list),.d (.int .i64 w.up.seq),.d (.int .i64 w.up.BR),.d (.int .i64 w.up.number),.d (.int .i64 w.up.err),.d (.int .i64 w.up.slot),.d (.int .i64 w.up.rank),.d (.int .i64 w.up.epoch),.d (.str w.up.data)]
def zRs:Rs:=⟨false,false,0,0,0,0,0,0,0,0,0,0,0,⟨#[]⟩,0⟩
def noM:Me:=⟨[],0,0,[]⟩
def FE (t:Tb):List Sp:=(t.cells.filter fun c=>decide (c.kind=3)).map fun c=>⟨c.slot,c.offset⟩
def D4 (m:Me) (i:Nat):Bool:=
 decide (AU (m.nodes.getD i default).st=0/\(m.nodes.getD i default).st.tb.node=i/\(m.nodes.getD i default).st.tb.len=(m.nodes.getD 0 default).st.tb.len/\FE (m.nodes.getD i default).st.tb=FE (m.nodes.getD 0 default).st.tb)
 && decide (rkErr (m.nodes.getD i default).rk=0/\(m.nodes.getD i default).rk.node=i/\(m.nodes.getD i default).rk.parent<m.nodes.length/\checkNb (m.nodes.getD i default).nb=0)
 && !((m.nodes.getD i default).nb.any fun n=>decide ((m.nodes.length:Int)<=n.node))&&decide (0<=(m.nodes.getD i default).next/\(m.nodes.getD i default).next<=65535)
def B6 (m:Me):Int:=
 if m.nodes.length<1\/32<m.nodes.length\/m.slot<0\/16384<m.slot\/m.turns<1\/32<m.turns\/4096<m.arr.length then 1
 else if(List.range m.nodes.length).any (fun i=>!D4 m i) then 1 else 0
def Ei (l:List Si) (src dst slot:Int):Bool:=!(l.any fun x=>decide (x.src=src)&&decide (x.dst=dst)&&decide (x.first<=slot)&&decide (slot<x.til))
def PV (a:Ac):Fr:=⟨a.BM,a.source,a.target,a.list,a.seq,a.BR,a.number,a.err,a.slot,a.rank,a.epoch,a.data⟩
def Ah7 (r:Rs):Fr:=⟨r.BM,r.source,r.target,r.list,r.seq,r.BR,r.number,r.err,r.slot,r.rank,r.epoch,r.data⟩
def Ahx (kind offset:Int) (f:Fr):Ac:=⟨kind,offset,f.kind,f.source,f.target,f.list,f.seq,f.BR,f.number,f.err,f.slot,f.rank,f.epoch,f.data⟩
def ZE (f:Fr):Rs:=⟨false,true,f.kind,f.source,f.target,f.list,f.seq,f.BR,f.number,f.err,f.slot,f.rank,f.epoch,f.data,0⟩
def MX (slot:Int) (x:MN):MN:=if(Cj x.st slot).2.2=0 then{x with st:=(Cj x.st slot).1} else x
def G8 (slot:Int) (x:MN) (data:ByteArray):MN:=
 if x.rk.parent<0 then x
 else if(Ia x.st ⟨x.next,x.rk.parent,1,slot,256,data⟩).2.2=0 then{x with st:=(Ia x.st ⟨x.next,x.rk.parent,1,slot,256,data⟩).1,next:=(x.next+1) % 65536} else x
def PE (i id:Int):ByteArray:=mkS [i % 256,id/256 % 256,id % 256]
def E9 (slot i:Int):List Ld->MN->MN
 |[],x=>x
 |l :: ls,x=>E9 slot i ls (if l.slot=slot/\l.node=i/\i≠0 then G8 slot x (PE i x.next) else x)
def Co (t:Tb):List TC:=t.cells.filter fun c=>decide (c.kind=3)
def Fc (t:Tb) (q:Int):Nat:=((Co t).filter fun c=>decide (c.slot<q)).length
def MD (t:Tb) (q:Int):Bool:=(Co t).any fun c=>decide (c.slot=q)
def Eb (t:Tb) (slot turns:Int):Int×Bool:=
 if BV t≠0\/slot<0\/turns<1\/32<turns then(0,false)
 else if MD t (slot % t.len)=false then(0,false)
 else((slot/t.len % turns*(Co t).length+Fc t (slot % t.len)) % turns,true)
def K5 (t:Tb) (slot turns:Int):Bool:=(atM t slot).2&&(Eb t slot turns).2&&decide ((atM t slot).1.kind=3)&&decide ((Eb t slot turns).1=t.node % turns)
def bcF (r:Rk) (slot:Int):Fr:=⟨3,r.node,-1,0,0,0,0,0,slot,r.rank,r.epoch,AaA false⟩
def DS (slot turns:Int) (x:MN):MN×Ac×Bool:=
 if K5 x.st.tb slot turns=true/\(advM x.rk).2.2.2=0 then({x with rk:=(advM x.rk).1},Ahx 1 (atM x.st.tb slot).1.offset (bcF x.rk slot),true)
 else(x,(Hs x.st slot).1,false)
def Dh (slot:Int) (w:Wk):Wk:=if w.bc=true then w else if(ED w.nd.st slot w.rs).2.2=0 then{w with nd:={w.nd with st:=(ED w.nd.st slot w.rs).1},up:=(ED w.nd.st slot w.rs).2.1} else w
def Dm (slot:Int) (w:Wk):Wk:=if w.rs.heard=true/\w.rs.BM=3/\(hearM w.nd.nb w.rs.source w.rs.epoch w.rs.rank slot).2=0 then{w with nd:={w.nd with nb:=(hearM w.nd.nb w.rs.source w.rs.epoch w.rs.rank slot).1}} else w
def En (w:Wk):Wk:=if w.ac.kind=1/\w.ac.BM=4/\0<=w.ac.target/\(countM w.nd.nb w.ac.target w.rs.AH).2=0 then{w with nd:={w.nd with nb:=(countM w.nd.nb w.ac.target w.rs.AH).1}} else w
def Xw (data:ByteArray) (slot:Int):Ar:=⟨bAt data 0,256*bAt data 1+bAt data 2,slot⟩
def DR (l:List Ar) (data:ByteArray) (slot:Int):List Ar:=
 if(l.any fun x=>decide (x.origin=(Xw data slot).origin)&&decide (x.id=(Xw data slot).id))=true then l else if 4096<=l.length then l else l++[Xw data slot]
def K4 (w:Wk):Bool:=w.up.new&&decide (w.up.BM=4)&&decide (w.up.target=w.node)&&decide (w.up.data.size=3)
def GA (slot:Int) (arr:List Ar) (w:Wk):List Ar×Wk:=
 if K4 w=false then(arr,w) else if w.node≠0 then(arr,{w with nd:=G8 slot w.nd w.up.data}) else(DR arr w.up.data slot,w)
def Ec (old new:Int) (p:Pk):Pk:=if p.to=old then{p with to:=new} else p
def D0 (slot:Int) (x:MN):MN:=
 if(select' (forgetM x.nb slot 256) x.rk 64).2.2≠0 then{x with nb:=forgetM x.nb slot 256}
 else if(select' (forgetM x.nb slot 256) x.rk 64).2.1=false\/(select' (forgetM x.nb slot 256) x.rk 64).1.parent<0\/x.rk.parent<0 then{x with nb:=forgetM x.nb slot 256,rk:=(select' (forgetM x.nb slot 256) x.rk 64).1}
 else{x with nb:=forgetM x.nb slot 256,rk:=(select' (forgetM x.nb slot 256) x.rk 64).1,st:={x.st with qu:=⟨x.st.qu.Be,x.st.qu.Ab.map (Ec x.rk.parent (select' (forgetM x.nb slot 256) x.rk 64).1.parent)⟩}}
def Aft (x:MN) (i:Nat):Wk:=⟨x,i,zAc,false,zRs,zUp⟩
def AeQ (slot:Int) (arr:List Ar) (w:Wk):List Ar×Wk:=(arr,{w with nd:=MX slot w.nd})
def ZR (slot:Int) (loads:List Ld) (arr:List Ar) (w:Wk):List Ar×Wk:=(arr,{w with nd:=E9 slot w.node loads w.nd})
def AcK (slot turns:Int) (arr:List Ar) (w:Wk):List Ar×Wk:=(arr,{w with nd:=(DS slot turns w.nd).1,ac:=(DS slot turns w.nd).2.1,bc:=w.bc||(DS slot turns w.nd).2.2})
def Xe (slot:Int) (arr:List Ar) (w:Wk):List Ar×Wk:=(arr,Dh slot w)
def AbT (slot:Int) (arr:List Ar) (w:Wk):List Ar×Wk:=(arr,En (Dm slot w))
def MW (slot:Int) (arr:List Ar) (w:Wk):List Ar×Wk:=(arr,{w with nd:=D0 slot w.nd})
def BL (F:List Ar->Wk->List Ar×Wk):List Ar->List Wk->List Ar×List Wk
 |arr,[]=>(arr,[])
 |arr,w :: l=>((BL F (F arr w).1 l).1,(F arr w).2 :: (BL F (F arr w).1 l).2)
def BH (sil:List Si) (slot:Int) (X:List Wk) (i:Nat):List Nat:=
 (List.range X.length).filter fun j=>decide (j≠i)&&decide ((X.getD j default).ac.kind=1)&&decide ((X.getD j default).ac.offset=(X.getD i default).ac.offset)&&Ei sil (X.getD j default).node (X.getD i default).node slot
def DY (sil:List Si) (slot:Int) (X:List Wk) (i j:Nat):List Wk:=
 if(X.getD j default).ac.target=(X.getD i default).node/\Ei sil (X.getD i default).node (X.getD j default).node slot=true then
  (X.set i {X.getD i default with rs:=ZE (PV (X.getD j default).ac)}).set j {X.getD j default with rs:={(X.getD j default).rs with AH:=true}}
 else X.set i {X.getD i default with rs:=ZE (PV (X.getD j default).ac)}
def Cv (sil:List Si) (slot:Int) (X:List Wk) (i:Nat):List Wk:=
 if(X.getD i default).ac.kind≠2 then X else match BH sil slot X i with
  |[j]=>DY sil slot X i j
  |_=>X
def Dc (sil:List Si) (slot:Int) (X:List Wk):Nat->List Wk
 |0=>X
 |k+1=>Cv sil slot (Dc sil slot X k) k
def DI (m:Me):List Wk:=(List.range m.nodes.length).map fun i=>Aft (m.nodes.getD i default) i
def Fh (m:Me) (loads:List Ld):List Wk:=(BL (AcK m.slot m.turns) [] (BL (ZR m.slot loads) [] (BL (AeQ m.slot) [] (DI m)).2).2).2
def Hk (m:Me) (loads:List Ld) (sil:List Si):List Wk:=Dc sil m.slot (Fh m loads) m.nodes.length
def Gs (m:Me) (loads:List Ld) (sil:List Si):List Ar×List Wk:=
 BL (GA m.slot) m.arr (BL (AbT m.slot) [] (BL (Xe m.slot) [] (Hk m loads sil)).2).2
def ID (m:Me) (loads:List Ld) (sil:List Si):Me:=
 ⟨((BL (MW m.slot) [] (Gs m loads sil).2).2).map (·.nd),m.slot+1,m.turns,(Gs m loads sil).1⟩
def C0 (m:Me) (loads:List Ld) (sil:List Si):Int:=if B6 m≠0 then 1 else if 1024<loads.length\/1024<sil.length then 8 else 0
def LS (m:Me) (loads:List Ld) (sil:List Si):Me×Int:=if C0 m loads sil≠0 then(noM,C0 m loads sil) else if 16384<=m.slot then(noM,21) else(ID m loads sil,0)
def runN (loads:List Ld) (sil:List Si):Nat->Me->Me
 |0,m=>m
 |k+1,m=>ID (runN loads sil k m) loads sil
def PX (m:Me) (BK:Int) (loads:List Ld) (sil:List Si):Me×Int:=
 if C0 m loads sil≠0 then(noM,C0 m loads sil) else if BK<0\/4096<BK then(noM,2) else if 16384<m.slot+BK then(noM,21) else(runN loads sil BK.toNat m,0)
def Fq (m:Me):List Int:=if B6 m≠0 then[] else m.nodes.map fun x=>x.rk.parent
def Aex (turns:Int):List Tb->Nat->Option (List MN)
 |[],_=>some []
 |t :: ts,i=>if(IG t 16 i).2≠0\/(startM i).2≠0 then none else match Aex turns ts (i+1) with
  |none=>none
  |some l=>some (⟨(IG t 16 i).1,(startM i).1,[],0⟩ :: l)
def E8 (tables:List Tb) (turns:Int):Me×Int:=match Aex turns tables 0 with
 |none=>(noM,1)
 |some l=>if B6 ⟨l,0,turns,[]⟩≠0 then(noM,1) else(⟨l,0,turns,[]⟩,0)
end Go.Proofs.M
namespace Go.Proofs
open Go Go.Sx Go.Proofs.T Go.Proofs.Q
attribute [local irreducible] VR VC thenQ blockQ retL
theorem AgV (l:List Hd) (p:Hd->Bool) (hl:l.length<=100000):FnS Tryz.prog 161 [.c (.row 0 l.length),.clo (F9 p)] [(0,.row 110 5 (rowOf Hd.enc l))]
  (.c (.row 0 (l.filter fun x=>!p x).length)) [(0,.row 110 5 (rowOf Hd.enc (l.filter fun x=>!p x)))]:=by
 refine FnS.Bv (enters_of func161 (by kernel_rfl) rfl) func161 rfl ntmps161 results161 rfl (by first|rfl|(simp only[BC,wfL,Bj,wfs,AA,Az];rfl)) rfl fun E=>?_
 refine AG ?_;have hidx:=Zj l p;cases hf:Ft l p with
 |none=>
  rw[hf] at hidx;have hidx':Ak 217 [AD (hds l),.clo (F9 p)] (AI (-1)):=hidx
  repeat'(first|refine Ad ?_|refine AK [0] (hidx') ?_|fail)
  have e:l.filter (fun x=>!p x)=l:=Go.Sx.filter_none (EB hf);rw[e];exact L9 (BI Ae rfl rfl)
 |some i=>
  rw[hf] at hidx;obtain⟨hi,hpi,hlt⟩:=Bs hf;have hidx':Ak 217 [AD (hds l),.clo (F9 p)] (AI (i:Nat)):=hidx
  repeat'(first|refine Af ?_|refine AK [0] (hidx') ?_|fail)
  refine Ax (ι:=Nat×Nat×List Hd) (fun q=>AN [(0,.c (.row 0 l.length)),(1,.clo (F9 p)),(5,AI q.2.1),(6,AI q.1)] [(0,.row 110 5 (rowOf Hd.enc q.2.2))])
   (fun q=>q.1<=l.length/\q.2.1<q.1/\q.2.2.length=l.length/\q.2.2.take q.2.1=(l.take q.1).filter (fun x=>!p x)/\q.2.2.drop q.1=l.drop q.1) (fun q=>l.length-q.1) (i+1,i,l) ⟨hi,Nat.lt_succ_self _,rfl,Go.Sx.JY hi hpi hlt,rfl⟩ ?_ ?_
  ·exact By ⟨rfl,rfl,rfl,rfl,tt0⟩ ⟨rfl,tt0⟩ (by simp only[wfL,wfs];rfl)
  ·rintro⟨k,j,L⟩ ⟨h1,h2,h3,h4,h5⟩;dsimp only at h1 h2 h3 h4 h5 ⊢
   repeat'(first|refine AJ ?_|refine F4 (⟨_,rfl,rfl⟩) (gk rfl) rfl rfl rfl rfl ?_|refine AS ?_|refine AQ ?_|refine Cn (gk rfl) rfl rfl (by omega) rfl rfl rfl ?_|refine AY ?_|refine sq 11 rfl ?_|refine BN ?_|(refine Av ?_ ?_<;>intro h hq)|fail)
   ·have hk:k<l.length:=by omega
    obtain⟨hx,hd⟩:=Go.Sx.FO h3 h5 hk;refine⟨(k+1,j+1,L.set j (L.getD k default)),⟨by dsimp only;omega,by dsimp only;omega,by simp[h3],?_,?_⟩,by dsimp only;omega,A0 (fun n=>n) ⟨⟨_,rfl,.c (.row rfl rfl)⟩,⟨_,rfl,.clo⟩,⟨_,rfl,.c .d⟩,⟨_,rfl,.c .d⟩,tt0⟩
     ⟨⟨_,rfl,.CJ (CC rfl) Ai⟩,tt0⟩ rfl (by simp only[wfL,wfs];rfl)⟩
    ·dsimp only;rw[Go.Sx.take_set (by omega),h4,Go.Sx.Bq hk,Akw,hx,AkL (by rw[<-hx];exact h)];rfl
    ·dsimp only;rw[List.drop_set_of_lt (by omega),hd]
   ·have hk:k<l.length:=by omega
    obtain⟨hx,hd⟩:=Go.Sx.FO h3 h5 hk;refine⟨(k+1,j,L),⟨by dsimp only;omega,by dsimp only;omega,h3,?_,hd⟩,by dsimp only;omega,A0 (fun n=>n) ⟨⟨_,rfl,.c (.row rfl rfl)⟩,⟨_,rfl,.clo⟩,⟨_,rfl,.c .d⟩,⟨_,rfl,.c .d⟩,tt0⟩
     ⟨⟨_,rfl,.CJ rfl Ai⟩,tt0⟩ rfl (by simp only[wfL,wfs];rfl)⟩
    dsimp only;rw[h4,Go.Sx.Bq hk,Akw,AkA (by rw[<-hx,h];simp)];simp
   ·have hk:k=l.length:=by omega
    subst hk;refine E4 (nm:=0) rfl (F6 (by omega)) fun cp spare hcp hmax=>?_
    rw[An] at hcp
    repeat'(first|refine Ad ?_|refine BT ?_|refine Bb ?_|refine La (gk rfl) rfl (by exact .sub) rfl rfl rfl rfl rfl (by(simp only[lns];omega)) ?_|fail)
    rw[AkB] at h4;have hj:(l.filter fun x=>!p x).length=j:=by rw[<-h4,AjD];omega
    rw[hj,<-h4];refine Ag (A0 (l:=[(4,.c (.row 0 j))]) (b:=[(0,.row 110 5 (rowOf Hd.enc (L.take j)))]) (fun n=>n) ⟨⟨_,rfl,.c (.row rfl rfl)⟩,tt0⟩ ⟨⟨_,rfl,.KW j ?_⟩,tt0⟩ rfl (by simp only[wfL,wfs];rfl)) (BI Ae rfl rfl);rw[AjP,AkC (by rw[AjD,An];omega),List.take_take,Nat.min_self,Dj]
theorem WH (x:Hd) (t:Int):Ak 162 [hdA x,AD (.pt 1 fun _=>.int .i64 t)] (AB (decide (x.til<t))):=by
 refine Ao func162 ntmps162 results162 fun E hS=>?_
 repeat'(first|refine Ad ?_|refine NP (gk rfl) rfl rfl rfl rfl ?_|fail)
 all_goals exact AO
theorem YX {σ:St} {t:Int} {L:List Nat}:AR Tryz.prog σ L (.fnc 162 [.d (.pt 1 fun _=>.int .i64 t)]) (.clo (F9 fun x=>decide (x.til<t))):=
 .fnc (eps:=[AD (.pt 1 fun _=>.int .i64 t)]) (.cons (.c .d) .nil) (enters_of func162 (by kernel_rfl) rfl)
  (by rintro _ _ ⟨x,rfl,rfl⟩;exact⟨rfl,WH x t⟩)
abbrev Fj (l:List Hd) (slot:Int):List Hd:=l.filter fun h=>!decide (h.til<slot)
theorem Q5 (s:Sta) (slot:Int):Ak 121 [stA s,AI slot] (.tup [stA (Cj s slot).1,AD (pks (Cj s slot).2.1),AI (Cj s slot).2.2]):=by
 have hck:=D1 s;refine Ao func121 ntmps121 results121 fun E hS=>?_
 refine AG ?_;by_cases hc:AU s=0
 ·rw[hc] at hck;have hhl:=(Ds (Ba hc).2.2.2.1).1;by_cases hs:slot<0\/109951162<slot
  ·have e:Cj s slot=(noS,[],2):=by rw[Cj,Akb (by omega),Akc hs]
   have d1:(!decide (0<=slot/\slot<=109951162))=true:=by simp only[Bool.not_eq_true',Ajx];omega
   rw[e]
   repeat'(first|refine Ad ?_|refine Aa (hck) ?_|refine Aa (B0 _ _) ?_|fail)
   exact Ag (Al (l:=[(4,.c (.ptr 4 0)),(5,AD (pks [])),(6,AI 2)]) (b:=[(4,.box noS.cs)])) AL
  ·have e:Cj s slot=(Dl {s with held:=Fj s.held slot,qu:=(BX s.qu slot).1},(BX s.qu slot).2,0):=by rw[Cj,Akb (by omega),Akb hs]
   have d1:(!decide (0<=slot/\slot<=109951162))=false:=by simp only[Bool.not_eq_false',Ajw];omega
   rw[e]
   repeat'(first|refine AJ ?_|refine Aa (hck) ?_|refine Aa (B0 _ _) ?_|refine Aa (D7 s hc) ?_|refine sq 6 rfl ?_|fail)
   refine VC.le (σ':=AN [(2,.c (.ptr 2 0)),(3,AD (.pt 1 fun _=>.int .i64 slot)),(4,.c (.ptr 4 0)),(5,AD .Df),(6,AI 0)] [(2,.box (s.csR (.row 101 s.held.length) (.d (sns s.seen)))),(4,.box noS.cs),(101,.row 110 5 (rowOf Hd.enc s.held))]) ?_ ?_
   ·refine DL (fun n=>if n=101 then 18101 else n) [18102,3] hS ?_ ?_ rfl (by(simp only[wfL,wfs,AA,Az];rfl))
    all_goals repeat'(first|exact tt0|refine⟨⟨_,rfl,?_⟩,?_⟩|exact .c .d|exact .c (.ptr rfl)|exact .CJ rfl Ai|refine .box ?_|exact .nil|refine .cons ?_ ?_|exact .d|exact .row rfl rfl|exact .Bm (by(simp;done)) rfl rfl (fun _=>rfl)|fail)
    exact .c (.cr (.ptr (by simp) rfl fun j hj=>by
     have:j=0:=by omega
     subst this;rfl))
   repeat'(first|refine AJ ?_|refine NP (gk rfl) rfl rfl rfl rfl ?_|refine Aa (Uc s.qu slot) ?_|refine Cx [] (AgV s.held (fun h=>decide (h.til<slot)) (by omega)) Ai ?_ (hAR:=(.cons YX .nil))|refine sq 9 rfl ?_|fail)
   refine VC.le (σ':=AN [(2,.c (.ptr 2 0)),(4,.c (.ptr 4 0)),(5,AD .Df),(6,AI 0),(8,AD (pks (BX s.qu slot).2))] [(2,.box (Sta.cs {s with held:=Fj s.held slot,qu:=(BX s.qu slot).1})),(4,.box noS.cs)]) ?_ ?_
   ·exact Cu (fun n=>n) [22000] hS
   repeat'(first|refine Ad ?_|refine Aa (LW {s with held:=Fj s.held slot,qu:=(BX s.qu slot).1}) ?_|fail)
   exact Ag (Al (l:=[(4,.c (.ptr 4 0)),(5,AD (pks (BX s.qu slot).2)),(6,AI 0)]) (b:=[(4,.box (Dl {s with held:=Fj s.held slot,qu:=(BX s.qu slot).1}).cs)])) AL
 ·have e:Cj s slot=(noS,[],1):=by rw[Cj,Akc hc]
  have hd:decide (AU s≠0)=true:=by simp[hc]
  rw[e]
  repeat'(first|refine Ad ?_|refine Aa (hck) ?_|fail)
  exact Ag (Al (l:=[(4,.c (.ptr 4 0)),(5,AD (pks [])),(6,AI 1)]) (b:=[(4,.box noS.cs)])) AL
theorem Yf (a:Int):Ak 287 [AI a] (AB false):=by
 refine Ao func287 ntmps287 results287 fun E hS=>?_
 repeat'(first|refine Ad ?_|fail)
 all_goals(refine Aq Ae rfl ?_;simp)
theorem Y6 (a b:Int):Ak 286 [AI a,AI b] (AB (decide (a<b))):=by
 refine Ao func286 ntmps286 results286 fun E hS=>?_
 repeat'(first|refine Ad ?_|refine Aa (Ik _) ?_|fail)
 all_goals exact AO
theorem Qt (l:List Int) (y:Int) (hl:l.length<=1000000):Ak 238 [AD (ints l),AI y] (.tup [AI (bsK id l y),AB (fdK id l y)]):=by
 refine Ao func238 ntmps238 results238 fun E hS=>?_
 repeat'(first|refine Af ?_|fail)
 refine Ax (ι:=Nat×Nat) (fun p=>AN [(0,AD (ints l)),(1,AI y),(6,AI l.length),(7,AI p.1),(8,AI p.2)] [])
  (fun p=>p.1<=p.2/\p.2<=l.length/\bs (fun i=>decide (id (l.getD i default)<y)) p.1 p.2=bsK id l y) (fun p=>p.2-p.1) (0,l.length) ⟨Ake _,Akd _,rfl⟩ ?_ ?_
 ·exact Al
 ·rintro⟨i,j⟩ ⟨h1,h2,h3⟩;dsimp only at h1 h2 h3 ⊢;rcases Akf i j with hij|hij
  ·have d0:=Cz i j
   repeat'(first|refine Af ?_|refine Aa (Y6 _ _) ?_|refine EO (gk rfl) rfl rfl rfl rfl (by omega) rfl ?_|refine A7 ?_|refine P6 (m:=1) (gk rfl) rfl rfl rfl (by decide) rfl ?_|(refine Av ?_ ?_<;>intro h hq)|fail)
   ·have e:(((i:Int)+(j:Int))/2^1).toNat=(i+j)/2:=by omega
    rw[e] at hq;refine⟨((i+j)/2+1,j),⟨by dsimp only;omega,h2,?_⟩,by dsimp only;omega,?_⟩
    ·rw[<-h3]
     conv=>rhs;rw[bs,Akc (by omega)]
     rw[Akc];exact Aju hq
    ·dsimp only;exact Al
   ·have e:(((i:Int)+(j:Int))/2^1).toNat=(i+j)/2:=by omega
    rw[e] at hq;refine⟨(i,(i+j)/2),⟨by dsimp only;omega,by dsimp only;omega,?_⟩,by dsimp only;omega,?_⟩
    ·rw[<-h3]
     conv=>rhs;rw[bs,Akc (by omega)]
     rw[Akb];rw[Ajw];exact Int.not_lt.2 hq
    ·dsimp only;exact Al
  ·have d0:=CM i j;have e0:bsK id l y=i:=by rw[<-h3,bs,Akb (by omega)]
   rcases Akf i l.length with hil|hil
   ·have d1:=Cz i l.length;by_cases he:l.getD i default=y
    ·have d2:=Aju he
     repeat'(first|refine Ad ?_|fail)
     refine IP Ae rfl rfl (by rw[e0]) (congrArg D.bool ?_);rw[fdK,e0,Aju (p:=i<l.length) hil,AkZ];exact Aju he
    ·have d2:=Ajv he
     repeat'(first|refine Ad ?_|refine Aa (Yf _) ?_|fail)
     refine IP Ae rfl rfl (by rw[e0]) (congrArg D.bool ?_);rw[fdK,e0,Aju (p:=i<l.length) hil,AkZ];exact Ajv he
   ·have d1:=CM i l.length
    repeat'(first|refine Ad ?_|fail)
    refine IP Ae rfl rfl (by rw[e0]) (congrArg D.bool ?_);rw[fdK,e0,Ajv (p:=i<l.length) (by omega)];rfl
instance Aji:Overlaps Tryz.prog 288:=
 ⟨51,4,3,1,AT.slice Tryz.Acu rfl,fun w=>AT.Bx Tryz.Adl w,fun args w=>run_callFunc_extern func288 (by kernel_rfl) (by kernel_rfl) (by kernel_rfl) (by kernel_rfl) args w⟩
abbrev I1 (x:FT):D:=.rd 1 1 fun _ j=>(FT.enc x).getD j .Df
theorem Rl (l:List FT) (i:Nat) (x:FT):rowOf FT.enc (BA l i x)=List.take i (rowOf FT.enc l)++(FT.enc x).map C.d :: List.drop i (rowOf FT.enc l):=by
 rw[BA,AF,Dj,Fv]
 rfl
theorem AbC (l:List FT) (i:Nat) (x:FT) (hl:l.length<=100000) (hi:i<=l.length):FnS Tryz.prog 239 [.c (.row 0 l.length),AI i,AD (I1 x)] [(0,.row 3 1 (rowOf FT.enc l))]
  (.c (.row 1 (l.length+1))) [(1,.row 3 1 (rowOf FT.enc (BA l i x)))]:=by
 refine FnS.Bv (enters_of func239 (by kernel_rfl) rfl) func239 rfl ntmps239 results239 rfl (by first|rfl|(simp only[BC,wfL,Bj,wfs,AA,Az];rfl)) rfl fun E=>?_
 refine AG ?_
 repeat'(first|refine AJ ?_|refine AQ ?_|refine Ap ?_|refine Bb ?_|refine sq 8 rfl ?_|(refine Av ?_ ?_<;>intro h hq)|fail)
 ·have e:i=l.length:=by omega
  subst e;refine Ag (A0 (l:=[(6,.c (.row 1 (l.length+1)))]) (b:=[(1,.row 3 1 (rowOf FT.enc (BA l l.length x)))]) (fun n=>if n=1 then 25 else n) ⟨⟨_,rfl,.c (.row rfl rfl)⟩,tt0⟩
   ⟨⟨_,rfl,.CJ ?_ Ai⟩,tt0⟩ rfl (by simp only[wfL,wfs];rfl)) (BI Ae rfl rfl)
  rw[BA,AkB,List.drop_length,AF]
  rfl
 ·refine E4 (nm:=0) rfl (F6 (by omega)) fun cp spare hcp hmax=>?_
  rw[An] at hcp
  repeat'(first|refine AJ ?_|refine GJ (gk rfl) rfl rfl rfl (by exact .full) (by omega) rfl rfl rfl ?_|refine DO (gk rfl) rfl rfl rfl rfl rfl rfl rfl rfl rfl rfl (by omega) (by(simp only[lns];omega)) (by omega) (by(try dsimp only);omega) rfl rfl ?_|refine BT ?_|refine Bb ?_|refine Hy (gk rfl) rfl rfl (by exact .sub) rfl (by first|exact .src .rd|exact .tail rfl (by(simp only[lns];omega)) (by omega)) rfl rfl rfl (by(simp only[lns];omega)) (by omega) rfl ?_|refine GK (gk rfl) rfl rfl rfl rfl ?_|refine sq 10 rfl ?_|(refine Av ?_ ?_<;>intro h hq)|fail)
  ·have hq1:((l.length:Int)+(1:Nat)-i).toNat=l.length+1-i:=by omega
   refine E4 (nm:=40) rfl (by
    intro e;have:=congrArg List.length e;rw[Ajy,AjH] at this;change _+_=0 at this;omega) fun cp2 spare2 hcp2 hmax2=>?_
   rw[Ajy,AjH,AjD,An] at hcp2
   repeat'(first|refine Ad ?_|refine Bb ?_|refine Hy (gk rfl) rfl rfl (by exact .sub) rfl (by first|exact .src .rd|exact .src (.sub rfl (by exact .full) (by(simp only[lns];omega)))) rfl rfl rfl (by(simp only[lns];omega)) (by omega) rfl ?_|fail)
   refine Ag (A0 (l:=[(6,.c (.row 1 (l.length+1)))]) (b:=[(1,.row 3 1 (rowOf FT.enc (BA l i x)))]) (fun n=>if n=1 then 40 else n) ⟨⟨_,rfl,.c (.row rfl (by omega))⟩,tt0⟩
    ⟨⟨_,rfl,.KW (l.length+1) ?_⟩,tt0⟩ rfl (by simp only[wfL,wfs];rfl)) (BI Ae rfl rfl)
   rw[hq1,show min 1 (i+(l.length+1-i)-i)=1 by omega,show min (l.length-i) (i+(l.length+1-i)-(i+1))=l.length-i by omega];exact(Lv (y:=(FT.enc x).map C.d) (An (enc:=FT.enc)) (by omega) rfl).trans (Rl l i x).symm
  ·refine Ag (A0 (l:=[(6,.c (.row 1 (l.length+1)))]) (b:=[(1,.row 3 1 (rowOf FT.enc (BA l i x)))]) (fun n=>if n=1 then 0 else n) ⟨⟨_,rfl,.c (.row rfl rfl)⟩,tt0⟩
    ⟨⟨_,rfl,.KW (l.length+1) ?_⟩,tt0⟩ rfl (by simp only[wfL,wfs];rfl)) (BI Ae rfl rfl)
   rw[show min 1 (l.length+1-i)=1 by omega,show min (l.length+1-i) (l.length+1-(i+1))=l.length-i by omega];exact(Lu (y:=(FT.enc x).map C.d) (An (enc:=FT.enc)) (by omega)).trans (Rl l i x).symm
theorem AbD (l:List Int) (y:Int) (hl:l.length<=100000) (hr:OA id l) (hf:fdK id l y=false):FnS Tryz.prog 176 [.c (.row 0 l.length),AI y] [(0,.row 3 1 (rowOf FT.enc l))] (.c (.row 1 (l.length+1))) [(1,.row 3 1 (rowOf FT.enc (GI id l y)))]:=by
 have hs:=Qt l y (by omega);rw[hf] at hs;have hb:bsK id l y<=l.length:=(J0 hr y).1;have hu:GI id l y=BA l (bsK id l y) y:=by
  have:=SQ (k:=id) (x:=y) hr;rw[this,Akb (by show ¬fdK id l y=true;rw[hf];simp)];rfl
 rw[hu];refine FnS.Bv (enters_of func176 (by kernel_rfl) rfl) func176 rfl ntmps176 results176 rfl (by first|rfl|(simp only[BC,wfL,Bj,wfs,AA,Az];rfl)) rfl fun E=>?_
 refine AG ?_
 repeat'(first|refine Ad ?_|refine AK [0] (hs) ?_|refine Cx [18] (AbC l (bsK id l y) y hl hb) Ai ?_|fail)
 exact Ag (BF (l:=[(4,.c (.row 1 (l.length+1)))]) (b:=[(1,.row 3 1 (rowOf FT.enc (BA l (bsK id l y) y)))]) (fun n=>if n=1 then 19001 else n)) (BI Ae rfl rfl)
theorem Zp {l:List Hd} (h:F0 l=true):OA Hd.BR l:=L6 fun i hi h0=>((Ds h).2 i hi).2.2 h0
theorem CP (s:Sta) (BR:Int):Ak 148 [stA s,AI BR] (AI (oI (Kv s.held BR))):=by
 refine Ao func148 ntmps148 results148 fun E hS=>?_
 repeat'(first|refine Af ?_|fail)
 refine DJ (nm:=2) (j:=5) (n:=s.held.length) rfl rfl fun hbl=>?_
 refine Ax (ι:=Nat) (fun k=>AN [(1,AI BR),(2,.c (.ptr 2 0)),(5,AI k)] [(2,.box s.cs)]) (fun k=>k<=s.held.length/\∀i,i<k->decide ((s.held.getD i default).BR=BR)=false) (fun k=>s.held.length-k) 0 ⟨Ake _,fun i hi=>absurd hi (Aj9 _)⟩ ?_ ?_
 ·exact Al
 ·intro k hk
  repeat'(first|refine Af ?_|(refine Av ?_ ?_<;>intro h hq)|fail)
  ·refine Aw Ae rfl ?_;rw[Kv,C2 (l:=s.held) (p:=fun h=>decide (h.BR=BR)) hk.2 (by omega) (Aju hq)];rfl
  ·refine⟨k+1,⟨by omega,fun i hi=>?_⟩,by omega,?_⟩
   ·by_cases hik:i<k
    ·exact hk.2 i hik
    ·have:i=k:=by omega
     subst this;exact Ajv hq
   ·exact Al
  ·refine Aw Ae rfl ?_;rw[Kv,CF (l:=s.held) (p:=fun h=>decide (h.BR=BR)) fun i hi=>hk.2 i (by omega)];rfl
theorem Ws (l:List Int) (n:Int):Ak 196 [AD (ints l),AI n] (AB (l.any fun y=>decide (n=y))):=by
 refine Ao func196 ntmps196 results196 fun E hS=>?_
 repeat'(first|refine Af ?_|fail)
 refine Bz (t:=0) rfl fun hbl=>?_
 refine Ax (ι:=Nat) (fun k=>AN [(0,AD (ints l)),(1,AI n),(5,AI k)] []) (fun k=>k<=l.length/\∀i,i<k->decide (n=l.getD i default)=false) (fun k=>l.length-k) 0 ⟨Ake _,fun i hi=>absurd hi (Aj9 _)⟩ ?_ ?_
 ·exact Al
 ·intro k hk
  repeat'(first|refine Af ?_|(refine Av ?_ ?_<;>intro h hq)|fail)
  ·refine Aq Ae rfl ?_;exact AjM.2 ⟨l.getD k default,BS (by omega),Aju hq.symm⟩
  ·refine⟨k+1,⟨by omega,fun i hi=>?_⟩,by omega,?_⟩
   ·by_cases hik:i<k
    ·exact hk.2 i hik
    ·have:i=k:=by omega
     subst this;exact Ajv fun h=>hq h.symm
   ·exact Al
  ·refine Aq Ae rfl ?_;rw[AjN];intro x hx;obtain⟨i,hi,rfl⟩:=CI hx;rw[hk.2 i (by omega)];simp
theorem O7 (t:Tb) (to:Int):Ak 267 [tbA t,AI to] (AB (Xz t to)):=by
 refine Ao func267 ntmps267 results267 fun E hS=>?_
 repeat'(first|refine Af ?_|fail)
 refine DJ (nm:=2) (j:=2) (n:=t.cells.length) rfl rfl fun hbl=>?_
 refine Ax (ι:=Nat) (fun k=>AN [(1,AI to),(2,.c (.ptr 2 0)),(5,AI k)] [(2,.box t.cs)]) (fun k=>k<=t.cells.length/\∀i,i<k->(decide ((t.cells.getD i default).kind=2)&&(t.cells.getD i default).send&&decide ((t.cells.getD i default).peer=to))=false) (fun k=>t.cells.length-k) 0 ⟨Ake _,fun i hi=>absurd hi (Aj9 _)⟩ ?_ ?_
 ·exact Al
 ·intro k hk;rcases Akf k t.cells.length with hlt|hge
  ·repeat'(first|refine Af ?_|(refine Av ?_ ?_<;>intro h hq)|fail)
   all_goals first
    |(exfalso;omega)
    |(refine Aq Ae rfl ?_
      exact AjM.2 ⟨t.cells.getD k default,BS hlt,by simp_all⟩)
    |(refine⟨k+1,⟨by omega,fun i hi=>?_⟩,by omega,?_⟩
      ·by_cases hik:i<k
       ·exact hk.2 i hik
       ·have:i=k:=by omega
        subst this
        simp_all
      ·exact Al
      )
  ·repeat'(first|refine Af ?_|(refine Av ?_ ?_<;>intro h hq)|fail)
   all_goals try (exfalso;omega)
   refine Aq Ae rfl ?_;rw[Xz,AjN];intro x hx;obtain⟨i,hi,rfl⟩:=CI hx;rw[hk.2 i (by omega)];simp
theorem KY (s:Sta):Ak 199 [stA s] (.tup [pkA (YA s (EF s)),AB (EF s).isSome]):=by
 refine Ao func199 ntmps199 results199 fun E hS=>?_
 repeat'(first|refine Af ?_|fail)
 refine DJ (nm:=1) (j:=4) (n:=s.qu.Ab.length) rfl rfl fun hbl=>?_
 refine Ax (ι:=Nat) (fun k=>AN [(1,.c (.ptr 1 0)),(2,.c (.ptr 2 0)),(4,AI k)] [(1,.box s.cs),(2,.box noP.cs)]) (fun k=>k<=s.qu.Ab.length/\∀i,i<k->(decide ((s.qu.Ab.getD i default).to=-1)||!Xz s.tb (s.qu.Ab.getD i default).to)=false) (fun k=>s.qu.Ab.length-k) 0 ⟨Ake _,fun i hi=>absurd hi (Aj9 _)⟩ ?_ ?_
 ·exact Al
 ·intro k hk;rcases Akf k s.qu.Ab.length with hlt|hge
  ·have hag:=O7 s.tb (s.qu.Ab.getD k default).to;have dlt:=Cz k s.qu.Ab.length
   repeat'(first|refine AJ ?_|refine sq 5 rfl ?_|refine BN ?_|fail)
   generalize hx:s.qu.Ab.getD k default=x at hag ⊢;by_cases h1:x.to=-1
   ·have d1:=Aju h1;have hc:EF s=some k:=C2 hk.2 hlt (by rw[hx];simp[h1]);have hp:YA s (some k)=x:=hx
    repeat'(first|refine Ad ?_|fail)
    rw[hc,hp];exact Aj
   ·have d1:=Ajv h1;cases h2:Xz s.tb x.to with
    |false=>
     rw[h2] at hag;have hc:EF s=some k:=C2 hk.2 hlt (by rw[hx,h2];simp);have hp:YA s (some k)=x:=hx
     repeat'(first|refine Ad ?_|refine Aa (hag) ?_|fail)
     rw[hc,hp];exact Aj
    |true=>
     rw[h2] at hag
     repeat'(first|refine Ad ?_|refine Aa (hag) ?_|fail)
     refine⟨k+1,⟨by omega,fun i hi=>?_⟩,by omega,?_⟩
     ·by_cases hik:i<k
      ·exact hk.2 i hik
      ·have:i=k:=by omega
       subst this;rw[hx,h2,d1];rfl
     ·exact Al
  ·have dlt:=CM k s.qu.Ab.length
   repeat'(first|refine Ad ?_|fail)
   have hc:EF s=none:=CF fun i hi=>hk.2 i (by omega)
   rw[hc];exact Aj
def Ajk (s:Sta) (p:Pk):Fr:=⟨4,s.tb.node,p.to,s.list,s.seq,0,0,0,0,0,0,p.data⟩
theorem IS (s:Sta) (p:Pk):Ak 198 [stA s,pkA p] (frA (Ajk s p)):=by
 refine Ao func198 ntmps198 results198 fun E hS=>?_
 repeat'(first|refine Ad ?_|fail)
 all_goals exact Ay
end Go.Proofs
