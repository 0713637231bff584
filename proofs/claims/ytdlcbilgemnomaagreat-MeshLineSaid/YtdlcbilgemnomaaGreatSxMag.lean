/-
  What functions of the program hand back, and plain laws on that. No condition.
-/
import Derived.Test.YtdlcbilgemnomaaGreatSxMab
import Derived.Test.YtdlcbilgemnomaaGreatSxMad
import Derived.Test.YtdlcbilgemnomaaGreatSxMae
import Derived.Test.YtdlcbilgemnomaaGreatSxMaf
import Derived.Test.YtdlcbilgemnomaaGreatSxLibC
import Derived.Test.YtdlcbilgemnomaaGreatSxMaa
set_option linter.unusedSimpArgs false
set_option linter.unusedVariables false
section
namespace Go.Proofs.M
open Go Go.Sx Go.Proofs Go.Proofs.T Go.Proofs.Q
open Go.Proofs.P (Nb nbs Rk rkA rkErr checkNb hearM countM forgetM select')
open Go.Proofs.R (startM advM)
set_option maxRecDepth 4000
attribute [local irreducible] VR VC thenQ blockQ retL
structure Ar where
 origin:Int
 id:Int
 slot:Int
 deriving DecidableEq,Inhabited
def Ar.enc (x:Ar):List D:=[.int .i64 x.origin,.int .i64 x.id,.int .i64 x.slot]
def Ar.cs (x:Ar):List C:=[.d (.int .i64 x.origin),.d (.int .i64 x.id),.d (.int .i64 x.slot)]
abbrev arA (x:Ar):AV:=.agg x.cs
abbrev ars (l:List Ar):D:=Iv Ar.enc 3 l
theorem Afh {x y:Ar} (h:[SV.int IntKind.i64 x.slot,SV.int IntKind.i64 x.id,SV.int IntKind.i64 x.origin].reverse=[SV.int IntKind.i64 y.slot,SV.int IntKind.i64 y.id,SV.int IntKind.i64 y.origin].reverse):x=y:=by
 have h:=List.reverse_inj.1 h;cases x;cases y;simp only[List.cons.injEq,SV.int.injEq,SV.bool.injEq,SV.str.injEq,true_and,and_true] at h;obtain⟨rfl,rfl,rfl⟩:=h
 rfl
instance:It Ar.enc:=⟨fun _=>rfl⟩
structure Ld where
 node:Int
 slot:Int
 deriving DecidableEq,Inhabited
def Ld.enc (x:Ld):List D:=[.int .i64 x.node,.int .i64 x.slot]
def Ld.cs (x:Ld):List C:=[.d (.int .i64 x.node),.d (.int .i64 x.slot)]
abbrev ldA (x:Ld):AV:=.agg x.cs
abbrev lds (l:List Ld):D:=Iv Ld.enc 2 l
instance:It Ld.enc:=⟨fun _=>rfl⟩
structure Si where
 src:Int
 dst:Int
 first:Int
 til:Int
 deriving DecidableEq,Inhabited
def Si.enc (x:Si):List D:=[.int .i64 x.src,.int .i64 x.dst,.int .i64 x.first,.int .i64 x.til]
def Si.cs (x:Si):List C:=[.d (.int .i64 x.src),.d (.int .i64 x.dst),.d (.int .i64 x.first),.d (.int .i64 x.til)]
abbrev siA (x:Si):AV:=.agg x.cs
abbrev sis (l:List Si):D:=Iv Si.enc 4 l
instance:It Si.enc:=⟨fun _=>rfl⟩
structure Sp where
 slot:Int
 offset:Int
 deriving DecidableEq,Inhabited
def Sp.enc (x:Sp):List D:=[.int .i64 x.slot,.int .i64 x.offset]
def Sp.cs (x:Sp):List C:=[.d (.int .i64 x.slot),.d (.int .i64 x.offset)]
abbrev spA (x:Sp):AV:=.agg x.cs
abbrev sps (l:List Sp):D:=Iv Sp.enc 2 l
theorem AeD {x y:Sp} (h:[SV.int IntKind.i64 x.offset,SV.int IntKind.i64 x.slot].reverse=[SV.int IntKind.i64 y.offset,SV.int IntKind.i64 y.slot].reverse):x=y:=by
 have h:=List.reverse_inj.1 h;cases x;cases y;simp only[List.cons.injEq,SV.int.injEq,SV.bool.injEq,SV.str.injEq,true_and,and_true] at h;obtain⟨rfl,rfl⟩:=h
 rfl
instance:It Sp.enc:=⟨fun _=>rfl⟩
structure MN where
 st:Sta
 rk:Rk
 nb:List Nb
 next:Int
 deriving Inhabited
def MN.cs (x:MN):List C:=[.d (.int .i64 x.st.tb.node),.d (.int .i64 x.st.tb.len),.d (tcs x.st.tb.cells),.d (.int .i64 x.st.qu.Bk),.d (pks x.st.qu.Af),.d (hds x.st.held),.d (sns x.st.seen),
 .d (.int .i64 x.st.list),.d (.int .i64 x.st.seq),.d (.int .i64 x.st.Bl),.d (.int .i64 x.st.tries),.d (.int .i64 x.st.back),.d (.int .i64 x.st.wait),.d (.int .i64 x.st.CY),
 .d (.int .i64 x.rk.node),.d (.int .i64 x.rk.epoch),.d (.int .i64 x.rk.parent),.d (.int .i64 x.rk.heard),.d (.int .i64 x.rk.rank),.d (.int .i64 x.rk.least),.d (nbs x.nb),.d (.int .i64 x.next)]
def MN.enc (x:MN):List D:=[.int .i64 x.st.tb.node,.int .i64 x.st.tb.len,tcs x.st.tb.cells,.int .i64 x.st.qu.Bk,pks x.st.qu.Af,hds x.st.held,sns x.st.seen,
 .int .i64 x.st.list,.int .i64 x.st.seq,.int .i64 x.st.Bl,.int .i64 x.st.tries,.int .i64 x.st.back,.int .i64 x.st.wait,.int .i64 x.st.CY,
 .int .i64 x.rk.node,.int .i64 x.rk.epoch,.int .i64 x.rk.parent,.int .i64 x.rk.heard,.int .i64 x.rk.rank,.int .i64 x.rk.least,nbs x.nb,.int .i64 x.next]
abbrev mnA (x:MN):AV:=.agg x.cs
abbrev mns (l:List MN):D:=Iv MN.enc 22 l
structure Me where
 nodes:List MN
 slot:Int
 turns:Int
 arr:List Ar
 deriving Inhabited
def Me.cs (m:Me):List C:=[.d (mns m.nodes),.d (.int .i64 m.slot),.d (.int .i64 m.turns),.d (ars m.arr)]
def Me.enc (m:Me):List D:=[mns m.nodes,.int .i64 m.slot,.int .i64 m.turns,ars m.arr]
abbrev meA (m:Me):AV:=.agg m.cs
structure Wk where
 nd:MN
 node:Int
 ac:Ac
 bc:Bool
 rs:Rs
 up:Up
 deriving Inhabited
def Wk.cs (w:Wk):List C:=[.d (.int .i64 w.nd.st.tb.node),.d (.int .i64 w.nd.st.tb.len),.d (tcs w.nd.st.tb.cells),.d (.int .i64 w.nd.st.qu.Bk),.d (pks w.nd.st.qu.Af),.d (hds w.nd.st.held),.d (sns w.nd.st.seen),
 .d (.int .i64 w.nd.st.list),.d (.int .i64 w.nd.st.seq),.d (.int .i64 w.nd.st.Bl),.d (.int .i64 w.nd.st.tries),.d (.int .i64 w.nd.st.back),.d (.int .i64 w.nd.st.wait),.d (.int .i64 w.nd.st.CY),
 .d (.int .i64 w.nd.rk.node),.d (.int .i64 w.nd.rk.epoch),.d (.int .i64 w.nd.rk.parent),.d (.int .i64 w.nd.rk.heard),.d (.int .i64 w.nd.rk.rank),.d (.int .i64 w.nd.rk.least),.d (nbs w.nd.nb),.d (.int .i64 w.nd.next),
 .d (.int .i64 w.node),
 .d (.int .i64 w.ac.kind),.d (.int .i64 w.ac.offset),.d (.int .i64 w.ac.BF),.d (.int .i64 w.ac.source),.d (.int .i64 w.ac.target),.d (.int .i64 w.ac.list),.d (.int .i64 w.ac.seq),.d (.int .i64 w.ac.Cb),.d (.int .i64 w.ac.number),.d (.int .i64 w.ac.err),.d (.int .i64 w.ac.slot),.d (.int .i64 w.ac.rank),.d (.int .i64 w.ac.epoch),.d (.str w.ac.data),
 .d (.bool w.bc),
 .d (.bool w.rs.AT),.d (.bool w.rs.heard),.d (.int .i64 w.rs.BF),.d (.int .i64 w.rs.source),.d (.int .i64 w.rs.target),.d (.int .i64 w.rs.list),.d (.int .i64 w.rs.seq),.d (.int .i64 w.rs.Cb),.d (.int .i64 w.rs.number),.d (.int .i64 w.rs.err),.d (.int .i64 w.rs.slot),.d (.int .i64 w.rs.rank),.d (.int .i64 w.rs.epoch),.d (.str w.rs.data),.d (.int .i64 w.rs.error),
 .d (.bool w.up.some),.d (.bool w.up.new),.d (.int .i64 w.up.BF),.d (.int .i64 w.up.source),.d (.int .i64 w.up.target),.d (.int .i64 w.up.list),.d (.int .i64 w.up.seq),.d (.int .i64 w.up.Cb),.d (.int .i64 w.up.number),.d (.int .i64 w.up.err),.d (.int .i64 w.up.slot),.d (.int .i64 w.up.rank),.d (.int .i64 w.up.epoch),.d (.str w.up.data)]
def zRs:Rs:=⟨false,false,0,0,0,0,0,0,0,0,0,0,0,⟨#[]⟩,0⟩
def noM:Me:=⟨[],0,0,[]⟩
def G7 (t:Tb):List Sp:=(t.cells.filter fun c=>decide (c.kind=3)).map fun c=>⟨c.slot,c.offset⟩
def FZ (m:Me) (i:Nat):Bool:=
 decide (AQ (m.nodes.getD i default).st=0/\(m.nodes.getD i default).st.tb.node=i/\(m.nodes.getD i default).st.tb.len=(m.nodes.getD 0 default).st.tb.len/\G7 (m.nodes.getD i default).st.tb=G7 (m.nodes.getD 0 default).st.tb)
 && decide (rkErr (m.nodes.getD i default).rk=0/\(m.nodes.getD i default).rk.node=i/\(m.nodes.getD i default).rk.parent<m.nodes.length/\checkNb (m.nodes.getD i default).nb=0)
 && !((m.nodes.getD i default).nb.any fun n=>decide ((m.nodes.length:Int)<=n.node))&&decide (0<=(m.nodes.getD i default).next/\(m.nodes.getD i default).next<=65535)
def BX (m:Me):Int:=
 if m.nodes.length<1\/32<m.nodes.length\/m.slot<0\/16384<m.slot\/m.turns<1\/32<m.turns\/4096<m.arr.length then 1
 else if(List.range m.nodes.length).any (fun i=>!FZ m i) then 1 else 0
def Ha (l:List Si) (src dst slot:Int):Bool:=!(l.any fun x=>decide (x.src=src)&&decide (x.dst=dst)&&decide (x.first<=slot)&&decide (slot<x.til))
def T5 (a:Ac):Fr:=⟨a.BF,a.source,a.target,a.list,a.seq,a.Cb,a.number,a.err,a.slot,a.rank,a.epoch,a.data⟩
def AcC (r:Rs):Fr:=⟨r.BF,r.source,r.target,r.list,r.seq,r.Cb,r.number,r.err,r.slot,r.rank,r.epoch,r.data⟩
def Afl (u:Up):Fr:=⟨u.BF,u.source,u.target,u.list,u.seq,u.Cb,u.number,u.err,u.slot,u.rank,u.epoch,u.data⟩
def AeX (kind offset:Int) (f:Fr):Ac:=⟨kind,offset,f.kind,f.source,f.target,f.list,f.seq,f.Cb,f.number,f.err,f.slot,f.rank,f.epoch,f.data⟩
def YX (f:Fr):Rs:=⟨false,true,f.kind,f.source,f.target,f.list,f.seq,f.Cb,f.number,f.err,f.slot,f.rank,f.epoch,f.data,0⟩
def Jb (slot:Int) (x:MN):MN:=if(Cv x.st slot).2.2=0 then{x with st:=(Cv x.st slot).1} else x
def EY (slot:Int) (x:MN) (data:ByteArray):MN:=
 if x.rk.parent<0 then x
 else if(I3 x.st ⟨x.next,x.rk.parent,1,slot,256,data⟩).2.2=0 then{x with st:=(I3 x.st ⟨x.next,x.rk.parent,1,slot,256,data⟩).1,next:=(x.next+1) % 65536} else x
def G2 (i id:Int):ByteArray:=mkS [i % 256,id/256 % 256,id % 256]
def CF (slot i:Int):List Ld->MN->MN
 |[],x=>x
 |l :: ls,x=>CF slot i ls (if l.slot=slot/\l.node=i/\i≠0 then EY slot x (G2 i x.next) else x)
def CX (t:Tb):List TC:=t.cells.filter fun c=>decide (c.kind=3)
def FW (t:Tb) (q:Int):Nat:=((CX t).filter fun c=>decide (c.slot<q)).length
def OG (t:Tb) (q:Int):Bool:=(CX t).any fun c=>decide (c.slot=q)
def Hl (t:Tb) (slot turns:Int):Int×Bool:=
 if Cl t≠0\/slot<0\/turns<1\/32<turns then(0,false)
 else if OG t (slot % t.len)=false then(0,false)
 else((slot/t.len % turns*(CX t).length+FW t (slot % t.len)) % turns,true)
def Ub (t:Tb) (slot turns:Int):Bool:=(atM t slot).2&&(Hl t slot turns).2&&decide ((atM t slot).1.kind=3)&&decide ((Hl t slot turns).1=t.node % turns)
def bcF (r:Rk) (slot:Int):Fr:=⟨3,r.node,-1,0,0,0,0,0,slot,r.rank,r.epoch,Aas false⟩
def DF (slot turns:Int) (x:MN):MN×Ac×Bool:=
 if Ub x.st.tb slot turns=true/\(advM x.rk).2.2.2=0 then({x with rk:=(advM x.rk).1},AeX 1 (atM x.st.tb slot).1.offset (bcF x.rk slot),true)
 else(x,(Py x.st slot).1,false)
def BL (slot:Int) (w:Wk):Wk:=if w.bc=true then w else if(EZ w.nd.st slot w.rs).2.2=0 then{w with nd:={w.nd with st:=(EZ w.nd.st slot w.rs).1},up:=(EZ w.nd.st slot w.rs).2.1} else w
def Cu (slot:Int) (w:Wk):Wk:=if w.rs.heard=true/\w.rs.BF=3/\(hearM w.nd.nb w.rs.source w.rs.epoch w.rs.rank slot).2=0 then{w with nd:={w.nd with nb:=(hearM w.nd.nb w.rs.source w.rs.epoch w.rs.rank slot).1}} else w
def Eh (w:Wk):Wk:=if w.ac.kind=1/\w.ac.BF=4/\0<=w.ac.target/\(countM w.nd.nb w.ac.target w.rs.AT).2=0 then{w with nd:={w.nd with nb:=(countM w.nd.nb w.ac.target w.rs.AT).1}} else w
def Na (data:ByteArray) (slot:Int):Ar:=⟨bAt data 0,256*bAt data 1+bAt data 2,slot⟩
def Dm (l:List Ar) (data:ByteArray) (slot:Int):List Ar:=
 if(l.any fun x=>decide (x.origin=(Na data slot).origin)&&decide (x.id=(Na data slot).id))=true then l else if 4096<=l.length then l else l++[Na data slot]
def Li (w:Wk):Bool:=w.up.new&&decide (w.up.BF=4)&&decide (w.up.target=w.node)&&decide (w.up.data.size=3)
def F6 (slot:Int) (arr:List Ar) (w:Wk):List Ar×Wk:=
 if Li w=false then(arr,w) else if w.node≠0 then(arr,{w with nd:=EY slot w.nd w.up.data}) else(Dm arr w.up.data slot,w)
def Eg (old new:Int) (p:Pk):Pk:=if p.to=old then{p with to:=new} else p
def DT (slot:Int) (x:MN):MN:=
 if(select' (forgetM x.nb slot 256) x.rk 64).2.2≠0 then{x with nb:=forgetM x.nb slot 256}
 else if(select' (forgetM x.nb slot 256) x.rk 64).2.1=false\/(select' (forgetM x.nb slot 256) x.rk 64).1.parent<0\/x.rk.parent<0 then{x with nb:=forgetM x.nb slot 256,rk:=(select' (forgetM x.nb slot 256) x.rk 64).1}
 else{x with nb:=forgetM x.nb slot 256,rk:=(select' (forgetM x.nb slot 256) x.rk 64).1,st:={x.st with qu:=⟨x.st.qu.Bk,x.st.qu.Af.map (Eg x.rk.parent (select' (forgetM x.nb slot 256) x.rk 64).1.parent)⟩}}
def AbK (x:MN) (i:Nat):Wk:=⟨x,i,zAc,false,zRs,zUp⟩
def Aa5 (slot:Int) (arr:List Ar) (w:Wk):List Ar×Wk:=(arr,{w with nd:=Jb slot w.nd})
def OV (slot:Int) (loads:List Ld) (arr:List Ar) (w:Wk):List Ar×Wk:=(arr,{w with nd:=CF slot w.node loads w.nd})
def YZ (slot turns:Int) (arr:List Ar) (w:Wk):List Ar×Wk:=(arr,{w with nd:=(DF slot turns w.nd).1,ac:=(DF slot turns w.nd).2.1,bc:=w.bc||(DF slot turns w.nd).2.2})
def TL (slot:Int) (arr:List Ar) (w:Wk):List Ar×Wk:=(arr,BL slot w)
def X5 (slot:Int) (arr:List Ar) (w:Wk):List Ar×Wk:=(arr,Eh (Cu slot w))
def KG (slot:Int) (arr:List Ar) (w:Wk):List Ar×Wk:=(arr,{w with nd:=DT slot w.nd})
def Bu (F:List Ar->Wk->List Ar×Wk):List Ar->List Wk->List Ar×List Wk
 |arr,[]=>(arr,[])
 |arr,w :: l=>((Bu F (F arr w).1 l).1,(F arr w).2 :: (Bu F (F arr w).1 l).2)
def Bv (sil:List Si) (slot:Int) (X:List Wk) (i:Nat):List Nat:=
 (List.range X.length).filter fun j=>decide (j≠i)&&decide ((X.getD j default).ac.kind=1)&&decide ((X.getD j default).ac.offset=(X.getD i default).ac.offset)&&Ha sil (X.getD j default).node (X.getD i default).node slot
def DM (sil:List Si) (slot:Int) (X:List Wk) (i j:Nat):List Wk:=
 if(X.getD j default).ac.target=(X.getD i default).node/\Ha sil (X.getD i default).node (X.getD j default).node slot=true then
  (X.set i {X.getD i default with rs:=YX (T5 (X.getD j default).ac)}).set j {X.getD j default with rs:={(X.getD j default).rs with AT:=true}}
 else X.set i {X.getD i default with rs:=YX (T5 (X.getD j default).ac)}
def Ci (sil:List Si) (slot:Int) (X:List Wk) (i:Nat):List Wk:=
 if(X.getD i default).ac.kind≠2 then X else match Bv sil slot X i with
  |[j]=>DM sil slot X i j
  |_=>X
def D2 (sil:List Si) (slot:Int) (X:List Wk):Nat->List Wk
 |0=>X
 |k+1=>Ci sil slot (D2 sil slot X k) k
def Dc (m:Me):List Wk:=(List.range m.nodes.length).map fun i=>AbK (m.nodes.getD i default) i
def Fk (m:Me) (loads:List Ld):List Wk:=(Bu (YZ m.slot m.turns) [] (Bu (OV m.slot loads) [] (Bu (Aa5 m.slot) [] (Dc m)).2).2).2
def F0 (m:Me) (loads:List Ld) (sil:List Si):List Wk:=D2 sil m.slot (Fk m loads) m.nodes.length
def EI (m:Me) (loads:List Ld) (sil:List Si):List Ar×List Wk:=
 Bu (F6 m.slot) m.arr (Bu (X5 m.slot) [] (Bu (TL m.slot) [] (F0 m loads sil)).2).2
def Cz (m:Me) (loads:List Ld) (sil:List Si):Me:=
 ⟨((Bu (KG m.slot) [] (EI m loads sil).2).2).map (·.nd),m.slot+1,m.turns,(EI m loads sil).1⟩
def Da (m:Me) (loads:List Ld) (sil:List Si):Int:=if BX m≠0 then 1 else if 1024<loads.length\/1024<sil.length then 8 else 0
def SO (m:Me) (loads:List Ld) (sil:List Si):Me×Int:=if Da m loads sil≠0 then(noM,Da m loads sil) else if 16384<=m.slot then(noM,21) else(Cz m loads sil,0)
def runN (loads:List Ld) (sil:List Si):Nat->Me->Me
 |0,m=>m
 |k+1,m=>Cz (runN loads sil k m) loads sil
def SU (m:Me) (CE:Int) (loads:List Ld) (sil:List Si):Me×Int:=
 if Da m loads sil≠0 then(noM,Da m loads sil) else if CE<0\/4096<CE then(noM,2) else if 16384<m.slot+CE then(noM,21) else(runN loads sil CE.toNat m,0)
def D7 (m:Me):List Int:=if BX m≠0 then[] else m.nodes.map fun x=>x.rk.parent
def WO (turns:Int):List Tb->Nat->Option (List MN)
 |[],_=>some []
 |t :: ts,i=>if(MF t 16 i).2≠0\/(startM i).2≠0 then none else match WO turns ts (i+1) with
  |none=>none
  |some l=>some (⟨(MF t 16 i).1,(startM i).1,[],0⟩ :: l)
def CM (tables:List Tb) (turns:Int):Me×Int:=match WO turns tables 0 with
 |none=>(noM,1)
 |some l=>if BX ⟨l,0,turns,[]⟩≠0 then(noM,1) else(⟨l,0,turns,[]⟩,0)
end Go.Proofs.M
end
section
namespace Go.Proofs.M
open Go Go.Sx Go.Proofs Go.Proofs.T Go.Proofs.Q
set_option maxRecDepth 4000
attribute [local irreducible] VR VC thenQ blockQ retL
abbrev Jz (p:Si->Bool):List DV->DV->Prop:=fun ds r=>∃x:Si,ds=[.agg x.enc]/\r=.d (.bool (p x))
theorem AaK (l:List Si) (p:Si->Bool):FnS Tryz.prog 85 [AD (sis l),.clo (Jz p)] [] (AI (oI (Fs l p))) []:=by
 refine fb Tryz.func85 (by kernel_rfl) rfl Tryz.ntmps85 Tryz.results85 rfl rfl rfl rfl fun E hS=>?_
 refine B9 (t:=0) rfl fun hb=>?_
 repeat'(first|refine sC ?_|refine Ak rfl (by exact tt0) ?_|fail)
 refine AK (ι:=Nat) (fun k=>AS [(0,AD (sis l)),(1,.clo (Jz p)),(7,AI l.length),(8,AI k)] []) (fun k=>k<=l.length/\∀i,i<k->p (l.getD i default)=false) (fun k=>l.length-k) 0 ⟨Ag1 _,fun i hi=>absurd hi (AgW _)⟩ ?_ ?_
 ·exact Ck ⟨rfl,rfl,rfl,rfl,trivial⟩ trivial rfl
 ·intro k hk
  repeat'(first|refine sC ?_|refine Ak rfl (by first|exact tt0|omega) ?_|(refine gC ?_;first|refine E2 (⟨_,rfl,rfl⟩) (gk rfl) rfl rfl rfl rfl ?_)|(refine gI ?_;first|refine Au (gk rfl) rfl rfl rfl rfl rfl (by omega) rfl ?_)|(refine gD ?_;first|(refine Ay rfl ?_ ?_<;>intro h<;>have hq:=h<;>(try simp only[hqs] at hq)))|fail)
  ·refine AG Ab rfl ?_;rw[Ey hk.2 (by omega) h];rfl
  ·refine⟨k+1,⟨by omega,fun i hi=>?_⟩,by omega,Ck ⟨rfl,rfl,rfl,rfl,trivial⟩ trivial rfl⟩;by_cases hik:i<k
   ·exact hk.2 i hik
   ·have:i=k:=by omega
    subst this;exact h
  ·refine AG Ab rfl ?_;have:k=l.length:=by omega
   subst this;rw[DR hk.2];rfl
theorem O2 (l:List Si) (p:Si->Bool):FnS Tryz.prog 52 [AD (sis l),.clo (Jz p)] [] (AB (l.any p)) []:=by
 refine fb Tryz.func52 (by kernel_rfl) rfl Tryz.ntmps52 Tryz.results52 rfl rfl rfl rfl fun E hS=>?_
 repeat'(first|refine sB ?_|refine Ak rfl (by exact tt0) ?_|(refine gC ?_;first|refine AF [] (AaK l p) (gk rfl) rfl (by(repeat'(first|exact .nil|refine .cons ?_ ?_|exact .of0 (.c .d)|exact .clo))<;>fail) (by rfl) rfl (by rfl) rfl (by rfl) rfl ?_)|fail)
 all_goals exact Aw Ab rfl (E9 _ _).symm
def AdY (a b s:Int) (x:Si):Bool:=decide (x.src=a)&&decide (x.dst=b)&&decide (x.first<=s)&&decide (s<x.til)
theorem Qq (x:Si) (a b s:Int):FnS Tryz.prog 53 [siA x,.ep (fun _=>.int .i64 a) 1,.ep (fun _=>.int .i64 b) 1,.ep (fun _=>.int .i64 s) 1] [] (AB (AdY a b s x)) []:=by
 refine fb Tryz.func53 (by kernel_rfl) rfl Tryz.ntmps53 Tryz.results53 rfl rfl rfl rfl fun E hS=>?_
 repeat'(first|refine sB ?_|refine Ak rfl (by exact tt0) ?_|(refine Ax rfl ?_ ?_<;>intro h<;>have hq:=h<;>(try simp only[hqs] at hq))|fail)
 all_goals(refine Aw Ab rfl ?_;unfold AdY;first|(simp_all;done)|(simp_all;omega))
theorem U2 {cs:List C} {x:D} (h:cs=[.d x]):∀j,j<1->cs[0+j]?=some (.d ((fun _=>x) j)):=fun j hj=>by
 have:j=0:=by omega
 subst this;subst h;rfl
theorem Tu {σ:St} {a b s:Int} {n1 n2 n3:Nat} {L:List Nat} (h1:n1∈L) (h2:n2∈L) (h3:n3∈L) (b1:σ (.b n1)=some (.k (.box [.d (.int .i64 a)]))) (b2:σ (.b n2)=some (.k (.box [.d (.int .i64 b)]))) (b3:σ (.b n3)=some (.k (.box [.d (.int .i64 s)]))):
  AR Tryz.prog σ L (.fnc 53 [.ptr n1 0,.ptr n2 0,.ptr n3 0]) (.clo (Jz (AdY a b s))):=
 .fnc (eps:=[.ep (fun _=>.int .i64 a) 1,.ep (fun _=>.int .i64 b) 1,.ep (fun _=>.int .i64 s) 1]) (.cons (.ptr h1 b1 (U2 rfl)) (.cons (.ptr h2 b2 (U2 rfl)) (.cons (.ptr h3 b3 (U2 rfl)) .nil))) (enters_of Tryz.func53 (by kernel_rfl) rfl)
  (by rintro _ _ ⟨x,rfl,rfl⟩;exact⟨rfl,Qq x a b s⟩)
theorem IQ (l:List Si) (a b s:Int):FnS Tryz.prog 21 [AD (sis l),AI a,AI b,AI s] [] (AB (Ha l a b s)) []:=by
 refine fb Tryz.func21 (by kernel_rfl) rfl Tryz.ntmps21 Tryz.results21 rfl rfl rfl rfl fun E hS=>?_
 repeat'(first|refine sB ?_|refine Ak rfl (by exact tt0) ?_|(refine gC ?_;first|refine AF [5,6,7] (O2 l (AdY a b s)) (gk rfl) rfl (by(repeat'(first|exact .nil|refine .cons ?_ ?_|exact .of0 (.c .d)|exact(Tu (by simp) (by simp) (by simp) rfl rfl rfl)))<;>fail) (by rfl) rfl (by rfl) rfl (by rfl) rfl ?_)|fail)
 all_goals exact Aw Ab rfl rfl
end Go.Proofs.M
end
section
namespace Go.Proofs.M
open Go Go.Sx Go.RowKit Go.Proofs Go.Proofs.T Go.Proofs.Q
set_option maxRecDepth 4000
attribute [local irreducible] VR VC thenQ blockQ retL VX
abbrev yv (l:Nat):Value:=.func (.yield l) #[] #[]
abbrev G1 (v:Value):AV:=.c (.d (.raw v))
def EU (w:World) (b o:Nat) (x:D):Prop:=(∃v,w.cell? ⟨b,o,none⟩=some v/\Dw w (fun b=>b<w.heap.size) x v)/\b<w.heap.size
def Qw (sil:List Si) (slot:Int) (X:List Wk) (i j:Nat):Bool:=
 decide (j≠i)&&decide ((X.getD j default).ac.kind=1)&&decide ((X.getD j default).ac.offset=(X.getD i default).ac.offset)&&Ha sil (X.getD j default).node (X.getD i default).node slot
def G0 (sil:List Si) (slot:Int) (X:List Wk) (i k:Nat):List Nat:=(List.range k).filter (Qw sil slot X i)
theorem Lt (sil:List Si) (slot:Int) (X:List Wk) (i k:Nat):G0 sil slot X i (k+1)=G0 sil slot X i k++(if Qw sil slot X i k=true then[k] else[]):=by
 unfold G0;rw[List.range_succ,List.filter_append]
 congr 1
 cases h:Qw sil slot X i k<;>simp[h]
theorem UG (sil:List Si) (slot:Int) (X:List Wk) (i k:Nat):(G0 sil slot X i k).length<=k:=by
 have:=AgS (Qw sil slot X i) (List.range k);rw[List.length_range] at this;exact this
abbrev stS (y b1 b2 rb ro n cap:Nat) (k:Nat):St:=AS [(0,G1 (yv y)),(1,G1 (pvo b1 0)),(2,G1 (pvo b2 0)),(9,G1 (.slice (some ⟨rb,ro,none⟩) n cap)),(10,AI n),(11,AI k)] []
abbrev stY (B:Nat->Nat) (y b1 b2 rb ro n cap:Nat) (k:Nat):St:=AS [(0,G1 (yv y)),(1,G1 (pvo b1 0)),(2,G1 (pvo b2 0)),(9,G1 (.slice (some ⟨rb,ro,none⟩) n cap)),(10,AI n),(11,AI k),(58,AB true),(59,G1 (yv y)),(60,G1 (pvo (B k) 0))] []
structure Abu (J:List Nat->World->Prop) (w W:World) (L:Nat->List Nat) (y b1 b2 rb ro n cap k:Nat) (a1:Act) (w1:World):Prop where
 kn:k<=n
 j:J (L k) w1
 old:Below w.heap.size w w1
 sz:W.heap.size<=w1.heap.size
 sat:Sat (⟨w1,fun b=>b<w.heap.size,fun _=>False⟩:Env Tryz.prog 65) (stS y b1 b2 rb ro n cap k) a1 w1
theorem Se {B:Nat} {w W1 W2:World} {p:Nat->Obj->Prop} (h:Below B w W1) (ht:Gx p W1 W2) (hp:∀b o,p b o->B<=b) (hB:B<=W1.heap.size):Below B w W2:=h.trans (ht.below hB hp)
set_option maxHeartbeats 4000000 in
theorem NR {w:World} {n i:Nat} {B:Nat->Nat} {X:List Wk} {sil:List Si} {slot:Int} {b1 b2 bs rb ro cap:Nat} (hX:X.length=n) (hi:i<n) (hn:n<=1000)
  (c1:EU w b1 0 (.raw (pvo bs 0))) (c2:EU w b2 0 (.raw (pvo (B i) 0))) (s0:EU w bs 0 (.int .i64 slot)) (s2:EU w bs 2 (.raw (.slice (some ⟨rb,ro,none⟩) n cap))) (s4:EU w bs 4 (sis sil))
  (hr:∀j,j<n->EU w rb (ro+j) (.raw (pvo (B j) 0))) (hB:∀j,j<n->∃ca ta,w.heap[B j]?=some (.cells ca ta (0,0)))
  (hc:∀j,j<n->EU w (B j) 22 (.int .i64 (X.getD j default).node)/\EU w (B j) 23 (.int .i64 (X.getD j default).ac.kind)/\EU w (B j) 24 (.int .i64 (X.getD j default).ac.offset)) (inj:∀j k,j<n->k<n->B j=B k->j=k):
  Aef (fun _=>False) Tryz.prog 174 #[pvo b1 0,pvo b2 0] (fun b:Nat=>#[pvo b 0]) (fun xs=>xs=(Bv sil slot X i).map B) (n+1) w:=by
 intro y J W hW hJ hy h0;refine calls_of_wp Tryz.func174 rfl ?_;have hcell:∀(W':World),Below w.heap.size w W'->w.heap.size<=W'.heap.size->∀{b o x},EU w b o x->AdV (⟨W',fun b=>b<w.heap.size,fun _=>False⟩:Env Tryz.prog 65) b o x:=by
  intro W' hb' hsz b o x ⟨⟨v,h1,h2⟩,hlt⟩;exact⟨⟨v,(World.cell?_of_block (hb'.block b hlt)).trans h1,Dw.A8 (fun b' h'=>⟨h',hb'.block b' h'⟩) h2⟩,by show b<W'.heap.size;omega,fun h=>h,fun b' h'=>⟨by show b'<W'.heap.size;have h':b'<w.heap.size:=h';omega,fun h=>h⟩⟩
 have hcells:∀(W':World),Below w.heap.size w W'->w.heap.size<=W'.heap.size->∀j,j<n->Pr (⟨W',fun b=>b<w.heap.size,fun _=>False⟩:Env Tryz.prog 65) (B j):=by
  intro W' hb' hsz j hj;obtain⟨ca,ta,h1⟩:=hB j hj;have hlt:=(hc j hj).1.2;exact⟨⟨ca,ta,(hb'.block _ hlt).trans h1⟩,by show B j<W'.heap.size;omega,fun h=>h⟩
 have hs0:=Xl (P:=Tryz.prog) (N:=65) (w:=W) (ρ:=fun _=>⟨0,0,false⟩) (Im:=fun b=>b<w.heap.size) (S0:=fun _=>False) (args:=[G1 (yv y),G1 (pvo b1 0),G1 (pvo b2 0)]) (vs:=[yv y,pvo b1 0,pvo b2 0]) (nt:=65)
  (.cons ⟨rfl,rfl⟩ (.cons ⟨rfl,rfl⟩ (.cons ⟨rfl,rfl⟩ .nil))) rfl (Nat.le_of_ble_eq_true rfl) rfl (fun b hb=>by have:=hW.size;have hb:b<w.heap.size:=hb;omega)
 have hJK:∀{E:Env Tryz.prog 65} {σ:St} {s:List Nat} {w2 a3 w3},(E.w0=w2/\E.S0=fun _=>False)->J s w2->Below w.heap.size w w2->W.heap.size<=w2.heap.size->Sat E σ a3 w3->J s w3/\Below w.heap.size w w3/\W.heap.size<=w3.heap.size:=by
  rintro E σ s w2 a3 w3 ⟨e1,e2⟩ hj ho hz ⟨ρ,Im,hs3⟩;have hk:G5 w2 (fun _=>False) w3:=by rw[<-e1,<-e2];exact hs3.A8
  have hks:=hk.size;have hBs:=hW.size;have ht:Gx (itP W.heap.size fun _=>False) w2 w3:=NH hk (fun b e=>e.elim);exact⟨hJ _ _ _ hj ht,Se ho ht (fun b o h=>by have:=h.1;omega) (by omega),by omega⟩
 obtain⟨R,hR⟩:∃R,R=bodyPost Tryz.prog Tryz.f174 (fun e W'=>(∃v,e=.returned v)/\∃xs,xs=(Bv sil slot X i).map B/\J xs W'):=⟨_,rfl⟩;rw[<-hR];have hno:¬LetsOut R:=by
  rintro⟨a,w,h⟩;rw[hR] at h;obtain⟨⟨v,hv⟩,_⟩:=h;cases hv
 have hend:∀{E:Env Tryz.prog 65} {σ:St} {e:Exit} {a:Act} {w1:World},(e=.normal\/e=.ret)->Sat E σ a w1->J ((Bv sil slot X i).map B) w1->R e a w1:=by
  intro E σ e a w1 he ⟨ρ,Im,hs⟩ hj;obtain⟨v,hv,_⟩:=Iq.results hs (fn:=Tryz.f174) (rs:=[]) rfl .nil;rw[hR];rcases he with rfl|rfl
  ·exact⟨hs.defers,v,hv,⟨v,rfl⟩,_,rfl,hj⟩
  ·exact⟨hs.defers,v,hv,⟨v,rfl⟩,_,rfl,hj⟩
 have hc0:=@hcell W hW hW.size;refine VX.run (Q4 ?_) hs0
 repeat'(first|refine sR ?_|(refine gL ?_;first|refine A2 (gk rfl) rfl (hc0 c1) rfl rfl ?_)|(refine gL ?_;first|refine A2 (gk rfl) rfl (hc0 s2) rfl rfl ?_)|(refine gN ?_;first|refine CV (gk rfl) rfl rfl ?_)|(show VR _ _ _ (⟨_,.fieldAddr _ _ _,_,_,_,_⟩ :: _) _ _ _;first|refine CK (gk rfl) rfl rfl rfl rfl rfl ?_)|(refine gE ?_;first|refine SF (gk rfl) rfl rfl rfl ?_)|refine Ak rfl (by exact tt0) ?_|fail)
 refine VX.le (σ':=stS y b1 b2 rb ro n cap 0) ?_ ?_
 ·refine lg ?_ ?_ rfl (by rfl)
  all_goals repeat'(first|exact tt0|refine⟨⟨_,rfl,?_⟩,?_⟩|exact .c .d|fail)
 refine VX.mk fun a1 w1 hs1=>?_
 have hL0:Abu J w W (fun k=>(G0 sil slot X i k).map B) y b1 b2 rb ro n cap 0 a1 w1:=by
  obtain⟨g1,g2,g3⟩:=hJK (s:=[]) ⟨rfl,rfl⟩ h0 hW (Ag0 _) hs1;exact⟨Ag1 _,g1,g2,g3,Mr hs1 rfl (fun b hb=>by have:=hW.size;have hb:b<w.heap.size:=hb;omega)⟩
 clear hs1 hs0 h0 hc0;refine wp_block (wp_loop_ghost (fun m a1 w1=>∃k,m=n-k/\Abu J w W (fun k=>(G0 sil slot X i k).map B) y b1 b2 rb ro n cap k a1 w1) n ?_ ?_)
 ·exact⟨0,by omega,hL0⟩
 rintro m a2 w2 ⟨k,rfl,H⟩;have hBsz:=hW.size;have ho2:=H.old;have hz2:=H.sz;have hc2:=@hcell w2 ho2 (by omega);have hcs2:=hcells w2 ho2 (by omega);by_cases hkn:k<n
 ·have hdd:decide ((k:Int)<(n:Int))=true:=Agj (by omega);have hck:=hc k hkn;have hci:=hc i hi;refine VX.run (Q4 ?_) H.sat
  repeat'(first|refine sR ?_|refine Ak rfl (by exact tt0) ?_|fail)
  refine Q4 ?_
  repeat'(first|(refine gT ?_;first|refine B1 ?_)|(show VC _ (.cond _ _ _) _ _;first|refine Ai rfl ?_|refine At rfl (by assumption) ?_)|refine EE ?_)
  refine VX.mk fun a3 w3 hs3=>wp_seq (wp_block ?_)
  refine VX.run (Q4 ?_) hs3
  repeat'(first|refine sR ?_|(refine gL ?_;first|refine A2 (gk rfl) rfl (hc2 (hr k hkn)) rfl rfl ?_)|(refine gI ?_;first|refine NA (gk rfl) rfl rfl rfl rfl rfl (by omega) rfl ?_)|refine Ak rfl (by exact tt0) ?_|fail)
  refine VX.le (σ':=AS [(0,G1 (yv y)),(1,G1 (pvo b1 0)),(2,G1 (pvo b2 0)),(5,G1 (pvo (B k) 0)),(9,G1 (.slice (some ⟨rb,ro,none⟩) n cap)),(10,AI n),(11,AI k)] []) ?_ ?_
  ·refine lg ?_ ?_ rfl (by rfl)
   all_goals repeat'(first|exact tt0|refine⟨⟨_,rfl,?_⟩,?_⟩|exact .c .d|fail)
  have hEq:B k=B i↔k=i:=⟨fun h=>inj _ _ hkn hi h,fun h=>by rw[h]⟩;have fin:∀{E:Env Tryz.prog 65} {w8:World} {a9:Act} {w9:World},(E.w0=w8/\E.S0=fun _=>False)->J ((G0 sil slot X i (k+1)).map B) w8->Below w.heap.size w w8->W.heap.size<=w8.heap.size->Sat E (stS y b1 b2 rb ro n cap (k+1)) a9 w9->
    ∃m',m'<n-k/\∃k1,m'=n-k1/\Abu J w W (fun k=>(G0 sil slot X i k).map B) y b1 b2 rb ro n cap k1 a9 w9:=by
   intro E w8 a9 w9 hE hj ho hz hs;obtain⟨g1,g2,g3⟩:=hJK hE hj ho hz hs;exact⟨n-(k+1),by omega,k+1,rfl,by omega,g1,g2,g3,Mr hs rfl (fun b hb=>by have hb:b<w.heap.size:=hb;omega)⟩
  cases hb:Qw sil slot X i k with
  |false=>
   have hsk:G0 sil slot X i (k+1)=G0 sil slot X i k:=by rw[Lt,hb];simp
   refine VX.mk fun a4 w4 hs4=>?_
   refine VX.run (Ns ?_) hs4;have hj2:J ((G0 sil slot X i (k+1)).map B) w2:=by rw[hsk];exact H.j
   have hh:=IQ sil (X.getD k default).node (X.getD i default).node slot;unfold Qw at hb;by_cases e1:k=i
   ·have d1:(!decide (B k=B i))=false:=by rw[Agj (hEq.2 e1)];rfl
    repeat'(first|refine sB ?_|(refine gL ?_;first|refine A2 (gk rfl) rfl (hc2 c2) rfl rfl ?_)|(show VR _ _ _ (⟨_,.binOp .neq _ _ _ _,_,_,_,_⟩ :: _) _ _ _;first|refine F9 (gk rfl) rfl rfl rfl rfl (hcs2 k hkn) (hcs2 i hi) rfl ?_)|refine Ak rfl (by exact tt0) ?_|refine Az rfl (by assumption) ?_|refine Ap (by kernel_rfl) ?_|(refine gD ?_;first|refine Ah rfl ?_)|fail)
    refine WK (σ':=stS y b1 b2 rb ro n cap k) ?_ ?_
    ·refine lg ?_ ?_ rfl (by rfl)
     all_goals repeat'(first|exact tt0|refine⟨⟨_,rfl,?_⟩,?_⟩|exact .c .d|fail)
    intro a5 w5 hs5;show Code.wp _ _ _ _ _;refine VX.run (Ns ?_) hs5
    repeat'(first|refine sR ?_|refine Ak rfl (by first|exact tt0|omega) ?_|fail)
    refine WK (σ':=stS y b1 b2 rb ro n cap (k+1)) ?_ ?_
    ·refine lg ?_ ?_ rfl (by rfl)
     all_goals repeat'(first|exact tt0|refine⟨⟨_,rfl,?_⟩,?_⟩|exact .c .d|fail)
    intro a6 w6 hs6;exact fin ⟨rfl,rfl⟩ hj2 ho2 hz2 hs6
   ·have d1:(!decide (B k=B i))=true:=by rw[Agk (fun h=>e1 (hEq.1 h))];rfl
    by_cases e2:(X.getD k default).ac.kind=1
    ·have d2:decide ((X.getD k default).ac.kind=1)=true:=Agj e2;by_cases e3:(X.getD k default).ac.offset=(X.getD i default).ac.offset
     ·have d3:decide ((X.getD k default).ac.offset=(X.getD i default).ac.offset)=true:=Agj e3;have e4:Ha sil (X.getD k default).node (X.getD i default).node slot=false:=by
       rw[Agj e1,d2,d3] at hb;simpa using hb
      rw[e4] at hh
      repeat'(first|refine sB ?_|(refine gL ?_;first|refine A2 (gk rfl) rfl (hc2 c1) rfl rfl ?_)|(refine gL ?_;first|refine A2 (gk rfl) rfl (hc2 c2) rfl rfl ?_)|(refine gL ?_;first|refine A2 (gk rfl) rfl (hc2 s0) rfl rfl ?_)|(refine gL ?_;first|refine A2 (gk rfl) rfl (hc2 s4) rfl rfl ?_)|(refine gL ?_;first|refine A2 (gk rfl) rfl (hc2 hck.1) rfl rfl ?_)|(refine gL ?_;first|refine A2 (gk rfl) rfl (hc2 hck.2.1) rfl rfl ?_)|(refine gL ?_;first|refine A2 (gk rfl) rfl (hc2 hck.2.2) rfl rfl ?_)|(refine gL ?_;first|refine A2 (gk rfl) rfl (hc2 hci.1) rfl rfl ?_)|(refine gL ?_;first|refine A2 (gk rfl) rfl (hc2 hci.2.2) rfl rfl ?_)|(show VR _ _ _ (⟨_,.binOp .neq _ _ _ _,_,_,_,_⟩ :: _) _ _ _;first|refine F9 (gk rfl) rfl rfl rfl rfl (hcs2 k hkn) (hcs2 i hi) rfl ?_)|(refine gN ?_;first|refine CV (gk rfl) rfl rfl ?_)|(show VR _ _ _ (⟨_,.fieldAddr _ _ _,_,_,_,_⟩ :: _) _ _ _;first|refine CK (gk rfl) rfl rfl rfl rfl rfl ?_)|refine Ak rfl (by exact tt0) ?_|(refine gC ?_;first|refine Aa (hh) (gk rfl) rfl rfl rfl (by rfl) rfl (by rfl) rfl ?_)|refine Az rfl (by assumption) ?_|refine Ap (by kernel_rfl) ?_|(refine gD ?_;first|refine Ah rfl ?_)|fail)
      refine WK (σ':=stS y b1 b2 rb ro n cap k) ?_ ?_
      ·refine lg ?_ ?_ rfl (by rfl)
       all_goals repeat'(first|exact tt0|refine⟨⟨_,rfl,?_⟩,?_⟩|exact .c .d|fail)
      intro a5 w5 hs5;show Code.wp _ _ _ _ _;refine VX.run (Ns ?_) hs5
      repeat'(first|refine sR ?_|refine Ak rfl (by first|exact tt0|omega) ?_|fail)
      refine WK (σ':=stS y b1 b2 rb ro n cap (k+1)) ?_ ?_
      ·refine lg ?_ ?_ rfl (by rfl)
       all_goals repeat'(first|exact tt0|refine⟨⟨_,rfl,?_⟩,?_⟩|exact .c .d|fail)
      intro a6 w6 hs6;exact fin ⟨rfl,rfl⟩ hj2 ho2 hz2 hs6
     ·have d3:decide ((X.getD k default).ac.offset=(X.getD i default).ac.offset)=false:=Agk e3
      repeat'(first|refine sB ?_|(refine gL ?_;first|refine A2 (gk rfl) rfl (hc2 c2) rfl rfl ?_)|(refine gL ?_;first|refine A2 (gk rfl) rfl (hc2 hck.2.1) rfl rfl ?_)|(refine gL ?_;first|refine A2 (gk rfl) rfl (hc2 hck.2.2) rfl rfl ?_)|(refine gL ?_;first|refine A2 (gk rfl) rfl (hc2 hci.2.2) rfl rfl ?_)|(show VR _ _ _ (⟨_,.binOp .neq _ _ _ _,_,_,_,_⟩ :: _) _ _ _;first|refine F9 (gk rfl) rfl rfl rfl rfl (hcs2 k hkn) (hcs2 i hi) rfl ?_)|(refine gN ?_;first|refine CV (gk rfl) rfl rfl ?_)|(show VR _ _ _ (⟨_,.fieldAddr _ _ _,_,_,_,_⟩ :: _) _ _ _;first|refine CK (gk rfl) rfl rfl rfl rfl rfl ?_)|refine Ak rfl (by exact tt0) ?_|refine Az rfl (by assumption) ?_|refine Ap (by kernel_rfl) ?_|(refine gD ?_;first|refine Ah rfl ?_)|fail)
      refine WK (σ':=stS y b1 b2 rb ro n cap k) ?_ ?_
      ·refine lg ?_ ?_ rfl (by rfl)
       all_goals repeat'(first|exact tt0|refine⟨⟨_,rfl,?_⟩,?_⟩|exact .c .d|fail)
      intro a5 w5 hs5;show Code.wp _ _ _ _ _;refine VX.run (Ns ?_) hs5
      repeat'(first|refine sR ?_|refine Ak rfl (by first|exact tt0|omega) ?_|fail)
      refine WK (σ':=stS y b1 b2 rb ro n cap (k+1)) ?_ ?_
      ·refine lg ?_ ?_ rfl (by rfl)
       all_goals repeat'(first|exact tt0|refine⟨⟨_,rfl,?_⟩,?_⟩|exact .c .d|fail)
      intro a6 w6 hs6;exact fin ⟨rfl,rfl⟩ hj2 ho2 hz2 hs6
    ·have d2:decide ((X.getD k default).ac.kind=1)=false:=Agk e2
     repeat'(first|refine sB ?_|(refine gL ?_;first|refine A2 (gk rfl) rfl (hc2 c2) rfl rfl ?_)|(refine gL ?_;first|refine A2 (gk rfl) rfl (hc2 hck.2.1) rfl rfl ?_)|(show VR _ _ _ (⟨_,.binOp .neq _ _ _ _,_,_,_,_⟩ :: _) _ _ _;first|refine F9 (gk rfl) rfl rfl rfl rfl (hcs2 k hkn) (hcs2 i hi) rfl ?_)|(refine gN ?_;first|refine CV (gk rfl) rfl rfl ?_)|(show VR _ _ _ (⟨_,.fieldAddr _ _ _,_,_,_,_⟩ :: _) _ _ _;first|refine CK (gk rfl) rfl rfl rfl rfl rfl ?_)|refine Ak rfl (by exact tt0) ?_|refine Az rfl (by assumption) ?_|refine Ap (by kernel_rfl) ?_|(refine gD ?_;first|refine Ah rfl ?_)|fail)
     refine WK (σ':=stS y b1 b2 rb ro n cap k) ?_ ?_
     ·refine lg ?_ ?_ rfl (by rfl)
      all_goals repeat'(first|exact tt0|refine⟨⟨_,rfl,?_⟩,?_⟩|exact .c .d|fail)
     intro a5 w5 hs5;show Code.wp _ _ _ _ _;refine VX.run (Ns ?_) hs5
     repeat'(first|refine sR ?_|refine Ak rfl (by first|exact tt0|omega) ?_|fail)
     refine WK (σ':=stS y b1 b2 rb ro n cap (k+1)) ?_ ?_
     ·refine lg ?_ ?_ rfl (by rfl)
      all_goals repeat'(first|exact tt0|refine⟨⟨_,rfl,?_⟩,?_⟩|exact .c .d|fail)
     intro a6 w6 hs6;exact fin ⟨rfl,rfl⟩ hj2 ho2 hz2 hs6
  |true=>
   have hsk:G0 sil slot X i (k+1)=G0 sil slot X i k++[k]:=by rw[Lt,hb];simp
   have hh:=IQ sil (X.getD k default).node (X.getD i default).node slot;unfold Qw at hb;simp only[Agt,Agl] at hb;obtain⟨⟨⟨e1,e2⟩,e3⟩,e4⟩:=hb;rw[e4] at hh;have d1:(!decide (B k=B i))=true:=by rw[Agk (fun h=>e1 (hEq.1 h))];rfl
   have d2:decide ((X.getD k default).ac.kind=1)=true:=Agj e2;have d3:decide ((X.getD k default).ac.offset=(X.getD i default).ac.offset)=true:=Agj e3;refine VX.mk fun a4 w4 hs4=>wp_seq ?_
   refine wpIn_wide (n:=3).1 ?_;refine TM 46 (by simp only[List.take_succ_cons,List.take_zero];rfl) (by simp only[List.drop_succ_cons,List.drop_zero];rfl) (inferInstance:YC Tryz.prog).out ?hno (by kernel_rfl) ?_ _ _ hs4
   case hno=>
    rintro⟨a,w,h⟩;exact hno ⟨a,w,h⟩
   repeat'(first|(refine gR ?_;first|(refine gL ?_;first|refine A2 (gk rfl) rfl (hc2 c1) rfl rfl ?_)|(refine gL ?_;first|refine A2 (gk rfl) rfl (hc2 c2) rfl rfl ?_)|(refine gL ?_;first|refine A2 (gk rfl) rfl (hc2 s0) rfl rfl ?_)|(refine gL ?_;first|refine A2 (gk rfl) rfl (hc2 s4) rfl rfl ?_)|(refine gL ?_;first|refine A2 (gk rfl) rfl (hc2 hck.1) rfl rfl ?_)|(refine gL ?_;first|refine A2 (gk rfl) rfl (hc2 hck.2.1) rfl rfl ?_)|(refine gL ?_;first|refine A2 (gk rfl) rfl (hc2 hck.2.2) rfl rfl ?_)|(refine gL ?_;first|refine A2 (gk rfl) rfl (hc2 hci.1) rfl rfl ?_)|(refine gL ?_;first|refine A2 (gk rfl) rfl (hc2 hci.2.2) rfl rfl ?_)|(show VR _ _ _ (⟨_,.binOp .neq _ _ _ _,_,_,_,_⟩ :: _) _ _ _;first|refine F9 (gk rfl) rfl rfl rfl rfl (hcs2 k hkn) (hcs2 i hi) rfl ?_)|(refine gN ?_;first|refine CV (gk rfl) rfl rfl ?_)|(show VR _ _ _ (⟨_,.fieldAddr _ _ _,_,_,_,_⟩ :: _) _ _ _;first|refine CK (gk rfl) rfl rfl rfl rfl rfl ?_)|refine Ak rfl (by exact tt0) ?_|(refine gC ?_;first|refine Aa (hh) (gk rfl) rfl rfl rfl (by rfl) rfl (by rfl) rfl ?_)|refine Az rfl (by assumption) ?_)|(refine gO ?_;first|refine Ap (by kernel_rfl) ?_))
   refine WK (σ':=stY B y b1 b2 rb ro n cap k) ?_ ?_
   ·refine lg ?_ ?_ rfl (by rfl)
    all_goals repeat'(first|exact tt0|refine⟨⟨_,rfl,?_⟩,?_⟩|exact .c .d|fail)
   intro a5 w5 hs5;obtain⟨hj5,ho5,hz5⟩:=hJK ⟨rfl,rfl⟩ H.j ho2 hz2 hs5;have he59:a5.eval (.tmp 59)=yv y:=by
    obtain⟨ρ,Im,h5⟩:=hs5;exact(h5.fr 59 (G1 (yv y)) rfl).1
   have he60:a5.eval (.tmp 60)=pvo (B k) 0:=by
    obtain⟨ρ,Im,h5⟩:=hs5;exact(h5.fr 60 (G1 (pvo (B k) 0)) rfl).1
   have hlen:((G0 sil slot X i k).map B).length<n+1:=by
    have:=UG sil slot X i k;rw[Agz];omega
   refine WX ?hg he59 he60 (hy 2 _ (B k) w5 hj5 hlen) ?_
   case hg=>
    obtain⟨ρ,Im,h5⟩:=hs5;exact GOK.wanted (N:=65) (σ:=stY B y b1 b2 rb ro n cap k) (GOK.some (j:=43) (g:=58) (want:=true) (b:=true) rfl rfl rfl rfl rfl) h5 (fun p hp=>by rw[Agx] at hp;subst hp;rfl)
   rintro w6 ⟨hj6,ht6⟩;have ho6:Below w.heap.size w w6:=Se ho5 ht6 (fun b o h=>h.1) (by omega);have hz6:W.heap.size<=w6.heap.size:=Aha hz5 ht6.size;have hj6':J ((G0 sil slot X i (k+1)).map B) w6:=by rw[hsk,Ag8];exact hj6
   have hs6:=Mr (w':=w6) (Im0:=fun b=>b<w.heap.size) hs5 rfl (fun b hb=>by have hb:b<w.heap.size:=hb;omega);have hs7:Sat (⟨w6,fun b=>b<w.heap.size,fun _=>False⟩:Env Tryz.prog 65) ((stY B y b1 b2 rb ro n cap k).upd (.s 61) (some (.v (AB true)))) (a5.put (some 61) (.bool true)) w6:=by
    obtain⟨ρ,Im,h6⟩:=hs6;exact⟨ρ,Im,h6.put (by decide) rfl (fun nm hn=>by cases hn)⟩
   refine H0 2 (by simp only[List.take_succ_cons,List.take_zero];rfl) (by simp only[List.drop_succ_cons,List.drop_zero];rfl) ?_;refine Kq ?hno2 ?_ _ _ hs7
   case hno2=>
    rintro⟨a,w,h⟩;exact hno ⟨a,w,h⟩
   repeat'(first|refine sA ?_|refine Ak rfl (by exact tt0) ?_|fail)
   refine fun a8 w8 hs8=>?_
   show Code.wp _ _ _ _ _;refine VX.run (Ns ?_) hs8
   repeat'(first|(show VC _ (.cond _ _ _) _ _;first|refine Ah rfl ?_)|refine EE ?_)
   refine fun a9 w9 hs9=>?_
   show Code.wp _ _ _ _ _;refine VX.run (Ns ?_) hs9
   repeat'(first|refine sR ?_|refine Ak rfl (by first|exact tt0|omega) ?_|fail)
   refine WK (σ':=stS y b1 b2 rb ro n cap (k+1)) ?_ ?_
   ·refine lg ?_ ?_ rfl (by rfl)
    all_goals repeat'(first|exact tt0|refine⟨⟨_,rfl,?_⟩,?_⟩|exact .c .d|fail)
   intro a10 w10 hs10;exact fin ⟨rfl,rfl⟩ hj6' ho6 hz6 hs10
 ·have hke:k=n:=by have:=H.kn;omega
  subst hke;have hdd:decide ((k:Int)<(k:Int))=false:=Agk (by omega);refine VX.run (Ns ?_) H.sat
  repeat'(first|refine sB ?_|refine Ak rfl (by exact tt0) ?_|(refine gD ?_;first|refine Ah rfl ?_|refine At rfl (by assumption) ?_)|fail)
  refine fun a3 w3 hs3=>?_
  show(if 0=0 then R .normal a3 w3 else R (.exit 0) a3 w3);rw[AgZ rfl];refine hend (.inl rfl) hs3 ?_;have e:G0 sil slot X i k=Bv sil slot X i:=by rw[<-hX];rfl
  rw[<-e];exact(hJK ⟨rfl,rfl⟩ H.j ho2 hz2 hs3).1
end Go.Proofs.M
end
section
namespace Go.Proofs.M
open Go Go.Sx Go.RowKit Go.Proofs Go.Proofs.T Go.Proofs.Q
set_option maxRecDepth 4000
attribute [local irreducible] VR VC thenQ blockQ retL
def DK (R:Nat->RI) (n:Nat):D:=.rd n 1 fun k _=>.raw (pvo (R k).blk 0)
abbrev sbC (slot turns:Int) (R:Nat->RI) (n:Nat) (loads:List Ld) (sil:List Si) (len:Nat):List C:=[.d (.int .i64 slot),.d (.int .i64 turns),.d (DK R n),.d (lds loads),.d (sis sil),.row 102 len]
def fxL (slot turns:Int) (R:Nat->RI) (n:Nat) (loads:List Ld) (sil:List Si) (arr:List Ar) (r0 r2:RI):List (Nat×Blk):=
 [(100,.box (sbC slot turns R n loads sil arr.length)),(102,.row 62 3 (rowOf Ar.enc arr)),(9100,.pin 100 r0),(9102,.pin 102 r2)]
theorem FT {slot turns:Int} {R:Nat->RI} {n:Nat} {loads:List Ld} {sil:List Si} {arr:List Ar} {r0 r2:RI}:ET (fxL slot turns R n loads sil arr r0 r2):=by
 intro p hp;simp only[fxL,AgD,Agq,or_false] at hp;rcases hp with rfl|rfl|rfl|rfl<;>simp
theorem HH (w:Wk):∀c∈w.cs,c.names=[]:=by
 intro c hc;simp only[Wk.cs,AgD,Agq,or_false] at hc
 repeat'(rcases hc with rfl|hc;rfl)
theorem F8 (X:List Wk):∀cs∈X.map Wk.cs,∀c∈cs,c.names=[]:=by
 intro cs hcs;obtain⟨w,_,rfl⟩:=AgT.1 hcs;exact HH w
theorem HG {X:List Wk} {i:Nat} (hi:i<X.length):(X.map Wk.cs).getD i []=(X.getD i default).cs:=by
 simp[Agi,hi]
end Go.Proofs.M
end
section
namespace Go.Proofs.M
open Go Go.Sx Go.RowKit Go.Proofs Go.Proofs.T Go.Proofs.Q
set_option maxRecDepth 4000
attribute [local irreducible] VR VC thenQ blockQ retL VX
theorem SQ (v1 v2:Value):FnS Tryz.prog 129 [G1 v1,G1 v2] [] (.fnc 174 [.ptr 2 0,.ptr 3 0]) [(2,.box [.d (.raw v1)]),(3,.box [.d (.raw v2)])]:=by
 refine fb Tryz.func129 (by kernel_rfl) rfl Tryz.ntmps129 Tryz.results129 rfl rfl rfl rfl fun E hS=>?_
 repeat'(first|refine sB ?_|refine Ak rfl (by exact tt0) ?_|fail)
 exact⟨Ab,[.fnc 174 [.ptr 2 0,.ptr 3 0]],.tmp rfl rfl .nil,rfl,fun p hp=>by
  simp only[AgD,Agq,or_false] at hp;rcases hp with rfl|rfl<;>rfl⟩
theorem EU.grow {w w':World} {b o:Nat} {x:D} (h:EU w b o x) (hb:Below w.heap.size w w'):EU w' b o x:=by
 obtain⟨⟨v,h1,h2⟩,hlt⟩:=h;exact⟨⟨v,(World.cell?_of_block (hb.block b hlt)).trans h1,Dw.A8 (fun c hc=>⟨AgK hc hb.size,hb.block c hc⟩) h2⟩,AgK hlt hb.size⟩
theorem PQ (v1 v2:Value) (h1:v1.oneCell'=true) (h2:v2.oneCell'=true) (w:World):
  Calls Tryz.prog 129 #[v1,v2] w fun e w'=>∃v,e=.returned v/\∃b1 b2,v=.func (.func 174) #[] #[pvo b1 0,pvo b2 0]/\EU w' b1 0 (.raw v1)/\EU w' b2 0 (.raw v2)/\Below w.heap.size w w':=by
 have h:=(SQ v1 v2).2 w (fun _=>⟨0,0,true⟩) (fun _=>False) (fun _=>False) [v1,v2] (.cons ⟨rfl,h1⟩ (.cons ⟨rfl,h2⟩ .nil)) (Dr (fun b hb=>hb.elim));refine Calls.mono h fun e w' hh=>?_
 obtain⟨v,ρ,Im,rfl,hm,⟨us,rfl,hus⟩,_⟩:=hh;refine⟨_,rfl,?_⟩;cases hus with
 |cons g1 hus=>
  cases hus with
  |cons g2 hus=>
   cases hus;have e1:=g1;have e2:=g2;simp only[BZ] at e1 e2;subst e1;subst e2;obtain⟨hn2,us2,T2,hh2,ha2⟩:=hm.bk 2 _ rfl;obtain⟨hn3,us3,T3,hh3,ha3⟩:=hm.bk 3 _ rfl;obtain⟨hl2,_⟩:=hm.own 2 _ rfl rfl hn2;obtain⟨hl3,_⟩:=hm.own 3 _ rfl rfl hn3;cases ha2 with
   |cons hv2 ha2=>
    cases ha2;cases ha3 with
    |cons hv3 ha3=>
     cases ha3;have hv2:=hv2.1;have hv3:=hv3.1;subst hv2;subst hv3;exact⟨_,_,rfl,⟨⟨_,by simp[World.cell?,hh2],⟨rfl,h1⟩⟩,hl2⟩,⟨⟨_,by simp[World.cell?,hh3],⟨rfl,h2⟩⟩,hl3⟩,hm.A8.below (fun b h=>h)⟩
theorem GV {ρ:Nat->RI} {w:World} {Im:Nat->Prop} {nm:Nat} {cs:List C} (h:BA ρ w Im nm (.box cs)) (hI:∀b,Im b->b<w.heap.size) {k:Nat} {x:D} (hk:cs[k]?=some (.d x)):EU w (ρ nm).blk k x:=by
 obtain⟨hnil,us,T,hh,ha⟩:=h;obtain⟨v,hv,hr⟩:=ha.get hk;refine⟨⟨v,by simp[World.cell?,hh,hv],Dw.A8 (fun b hb=>⟨hI b hb,rfl⟩) hr⟩,?_⟩;have:=(Array.getElem?_eq_some_iff.1 hh).1;exact this
structure YD (w:World) (slot:Int) (sil:List Si) (X:List Wk) (R:Nat->RI) (bs rb ro cap:Nat):Prop where
 s0:EU w bs 0 (.int .i64 slot)
 s2:EU w bs 2 (.raw (.slice (some ⟨rb,ro,none⟩) X.length cap))
 s4:EU w bs 4 (sis sil)
 hr:∀j,j<X.length->EU w rb (ro+j) (.raw (pvo (R j).blk 0))
 hB:∀j,j<X.length->∃ca ta,w.heap[(R j).blk]?=some (.cells ca ta (0,0))
 hc:∀j,j<X.length->EU w (R j).blk 22 (.int .i64 (X.getD j default).node)/\EU w (R j).blk 23 (.int .i64 (X.getD j default).ac.kind)/\EU w (R j).blk 24 (.int .i64 (X.getD j default).ac.offset)
 inj:∀j k,j<X.length->k<X.length->(R j).blk=(R k).blk->j=k
theorem YD.grow {w w':World} {slot:Int} {sil:List Si} {X:List Wk} {R:Nat->RI} {bs rb ro cap:Nat} (h:YD w slot sil X R bs rb ro cap) (hb:Below w.heap.size w w'):YD w' slot sil X R bs rb ro cap:=
 ⟨h.s0.grow hb,h.s2.grow hb,h.s4.grow hb,fun j hj=>(h.hr j hj).grow hb,fun j hj=>by
  obtain⟨ca,ta,h1⟩:=h.hB j hj;exact⟨ca,ta,(hb.block _ (h.hc j hj).1.2).trans h1⟩,fun j hj=>⟨(h.hc j hj).1.grow hb,(h.hc j hj).2.1.grow hb,(h.hc j hj).2.2.grow hb⟩,h.inj⟩
theorem Tw {E:Env Tryz.prog 65} {σ:St} {a:Act} {w:World} {ρ:Nat->RI} {Im:Nat->Prop} {slot turns:Int} {R:Nat->RI} {loads:List Ld} {sil:List Si} {len:Nat} {X:List Wk} (hs:AU E σ a w ρ Im) (h0:0<X.length)
  (hb:σ (.b 100)=some (.k (.box (sbC slot turns R X.length loads sil len)))) (hx:∀j,j<X.length->σ (.b (8000+j))=some (.k (.box (X.getD j default).cs))) (hp:∀j,j<X.length->σ (.b (20000+j))=some (.k (.pin (8000+j) (R j)))):
  ∃rb ro cap,YD w slot sil X R (ρ 100).blk rb ro cap:=by
 have hI:∀b,Im b->b<w.heap.size:=fun b hb=>(hs.im b hb).2.1
 have hbk:=hs.bk 100 _ hb;have hR:∀j,j<X.length->ρ (8000+j)=R j:=fun j hj=>hs.bk (20000+j) _ (hp j hj)
 obtain⟨⟨v2,c2,r2⟩,l2⟩:=GV hbk hI (k:=2) (x:=DK R X.length) rfl;obtain⟨hmax,ad,cap,rfl,hcap,hel⟩:=r2;obtain⟨rb,ro,rfl,hrb,hcell⟩:=hel h0;refine⟨rb,ro,cap,GV hbk hI rfl,⟨⟨_,c2,rfl,rfl⟩,l2⟩,GV hbk hI rfl,fun j hj=>?_,fun j hj=>?_,fun j hj=>?_,fun j k hj hk e=>?_⟩
 ·obtain⟨u,hu,hru⟩:=hcell j hj 0 (by omega);rw[Nat.mul_one,Nat.add_zero] at hu;exact⟨⟨u,hu,hru⟩,hrb⟩
 ·obtain⟨hnil,us,T,hh,_⟩:=hs.bk (8000+j) _ (hx j hj);rw[hR j hj] at hh;exact⟨_,_,hh⟩
 ·have hbj:=hs.bk (8000+j) _ (hx j hj);have e:=hR j hj;refine⟨?_,?_,?_⟩
  ·rw[<-e];exact GV hbj hI rfl
  ·rw[<-e];exact GV hbj hI rfl
  ·rw[<-e];exact GV hbj hI rfl
 ·have n1:=(hs.bk (8000+j) _ (hx j hj)).1;have n2:=(hs.bk (8000+k) _ (hx k hk)).1;by_cases hjk:j=k
  ·exact hjk
  ·exact absurd (by rw[hR j hj,hR k hk];exact e) (hs.inj _ _ _ _ (hx j hj) (hx k hk) rfl rfl n1 n2 (by omega))
end Go.Proofs.M
end
section
namespace Go.Proofs.M
open Go Go.Sx Go.RowKit Go.Proofs Go.Proofs.T Go.Proofs.Q
theorem Xp {P:Program} {N:Nat} {E:Env P N} {Q:Exit->St->Prop} {e:Exit} {σ:St} (h:retL E Q e σ):∃σ',Q e σ':=by
 obtain⟨σ',_,h2⟩:=h;exact⟨σ',h2⟩
set_option maxRecDepth 4000
attribute [local irreducible] VR VC thenQ blockQ retL VX
theorem Q7 {σ:St} {t n:Nat} {x:Option Sx.Item}:σ.Ca [(.s t,x)] (.b n)=σ (.b n):=rfl
theorem Gd {σ:St} {t n:Nat} {x:Option Sx.Item}:σ.upd (.s t) x (.b n)=σ (.b n):=rfl
theorem WV.Ep {σ:St} {L:List Nat}:∀xs:List (List C),A5 (A5 (CW σ (fun n=>n) L)) xs xs
 |[]=>.nil
 |c :: cs=>.cons (CWs.Ep c) (WV.Ep cs)
theorem Mo {σ:St} {t n:Nat} {x:AV}:σ.set t x (.b n)=σ (.b n):=rfl
theorem Eo {σ:St} {n m:Nat} {x:Option Sx.Item} (h:m≠n):σ.upd (.b m) x (.b n)=σ (.b n):=St.Aq _ _ (by intro e;injection e with e;exact h e)
theorem Vf {FX:List (Nat×Blk)} {R:Nat->RI} {X:List (List C)} {n:Nat} (hn:n<8000) (h:As FX n=none):As (DL FX R X) n=none:=by
 cases h1:As (DL FX R X) n with
 |none=>rfl
 |some b=>
  rcases BE h1 with h2|⟨i,_,rfl,_⟩|⟨j,_,rfl,_⟩
  ·rw[h] at h2;cases h2
  ·omega
  ·omega
theorem Vg {l:List (Nat×AV)} {FX:List (Nat×Blk)} {R:Nat->RI} {X:List (List C)} {n:Nat} {b:Blk} (h:As FX n=some b):AS l (DL FX R X) (.b n)=some (.k b):=by
 show(As (DL FX R X) n).map Item.k=_;rw[BI h];rfl
abbrev lsS (l:List (Nat×AV)) (FX:List (Nat×Blk)) (R:Nat->RI) (X:List Wk):St:=AS l (DL FX R (X.map Wk.cs))
theorem Kn {l:List (Nat×AV)} {FX:List (Nat×Blk)} {R:Nat->RI} {X:List Wk} (hf:ET FX) (hX:X.length<=64) {j:Nat} (hj:j<X.length):lsS l FX R X (.b (8000+j))=some (.k (.box (X.getD j default).cs)):=by
 rw[lsS,Ok hf (by rw[Agz];omega) (by rw[Agz];exact hj),HG hj]
theorem LI {l:List (Nat×AV)} {FX:List (Nat×Blk)} {R:Nat->RI} {X:List Wk} (hf:ET FX) (hX:X.length<=64) {j:Nat} (hj:j<X.length):lsS l FX R X (.b (20000+j))=some (.k (.pin (8000+j) (R j))):=by
 rw[lsS,LH hf (by rw[Agz];omega) (by rw[Agz];exact hj)]
theorem F1 {P:Program} {N:Nat} {E:Env P N} {σ:St} {l:List (Nat×AV)} {FX:List (Nat×Blk)} {R:Nat->RI} {X:List Wk} (hf:ET FX) (hX:X.length<=64) (hl:WQ σ (fun n=>n) [] l) (hF:H5 σ (fun n=>n) [] FX)
  (hx:∀j,j<X.length->σ (.b (8000+j))=some (.k (.box (X.getD j default).cs))) (hp:∀j,j<X.length->σ (.b (20000+j))=some (.k (.pin (8000+j) (R j))))
  (h1:∀p∈l,p.2.shallow=true/\∀n∈p.2.names,(As (DL FX R (X.map Wk.cs)) n).isSome=true) (h2:∀p∈FX,∀n∈p.2.names,(As (DL FX R (X.map Wk.cs)) n).isSome=true):Le E σ (lsS l FX R X):=by
 refine AaE hl hF (fun j hj=>?_) (fun j hj=>?_) (MH hf (by rw[Agz];omega) h1 h2 (F8 X))
 ·rw[Agz] at hj;refine⟨_,hx j hj,?_⟩;rw[HG hj];exact CWs.Ep _
 ·rw[Agz] at hj;exact hp j hj
theorem LK {FX:List (Nat×Blk)} {R:Nat->RI} {X:List Wk} (hf:ET FX) (hX:X.length<=64) {j:Nat} (hj:j<X.length):(As (DL FX R (X.map Wk.cs)) (8000+j)).isSome=true:=by
 rw[FN hf (by rw[Agz];omega) (by rw[Agz];exact hj)];rfl
def WN (R:Nat->RI) (L:List Nat):List Nat:=L.map fun j=>(R j).blk
set_option maxHeartbeats 2000000 in
theorem MM {E:Env Tryz.prog 65} {slot turns:Int} {R:Nat->RI} {loads:List Ld} {sil:List Si} {arr:List Ar} {r0 r2:RI} {X:List Wk} {i:Nat} (hX:X.length<=64) (hi:i<X.length) {y:Code} {rs:List ResultVar} {res:AV} {bo:List (Nat×Blk)} {af1 af2:Array Edge} {p0 p1 p2 p3 p4:String} {a0 a1 a4:Array Edge}
  (h:VC E y (retL E (Hr Tryz.prog rs res bo)) (lsS [(0,.c (.ptr 100 0)),(1,.c (.ptr (8000+i) 0)),(4,.c (.row 15 (WN R (Bv sil slot X i)).length))] ((15,.row 136 1 (rowOf LX (WN R (Bv sil slot X i)))) :: (fxL slot turns R X.length loads sil arr r0 r2)) R X)):
  VC E (.region 1 #[⟨some 12,.move (.tmp 0),131,p0,a0,none⟩,⟨some 13,.move (.tmp 1),136,p1,a1,none⟩,⟨some 14,.call ⟨.value (.func 129),#[.tmp 12,.tmp 13],#[131,136]⟩,196,p2,af1,none⟩,
   ⟨some 15,.call ⟨.value (.func 128),#[.tmp 14],#[196]⟩,133,p3,af2,none⟩,⟨some 4,.assign (.tmp 15),133,p4,a4,none⟩] false) (thenQ (VC E y (retL E (Hr Tryz.prog rs res bo))) (retL E (Hr Tryz.prog rs res bo))) (lsS [(0,.c (.ptr 100 0)),(1,.c (.ptr (8000+i) 0))] (fxL slot turns R X.length loads sil arr r0 r2) R X):=by
 have hf:ET (fxL slot turns R X.length loads sil arr r0 r2):=FT;refine VC.mk fun a w hs=>?_
 have hno:¬LetsOut (fun e a' w'=>∃σ',Sat E σ' a' w'/\thenQ (VC E y (retL E (Hr Tryz.prog rs res bo))) (retL E (Hr Tryz.prog rs res bo)) e σ'):=by
  rintro⟨a,w,σ',_,h⟩;obtain⟨σ2,h2⟩:=Xp (NJ h);rcases h2.1 with h|h<;>cases h
 refine wpIn_wide (n:=3).1 (wpIn_region_lit ?_);refine H0 2 (by simp only[List.take_succ_cons,List.take_zero];rfl) (by simp only[List.drop_succ_cons,List.drop_zero];rfl) ?_;refine Kq hno ?_ _ _ hs
 repeat'(first|refine sA ?_|refine Ak rfl (by exact tt0) ?_|fail)
 rintro a2 w2 ⟨ρ,Im,hs2⟩;have hB:∀n b,lsS [(0,.c (.ptr 100 0)),(1,.c (.ptr (8000+i) 0))] (fxL slot turns R X.length loads sil arr r0 r2) R X (.b n)=some (.k b)->((lsS [(0,.c (.ptr 100 0)),(1,.c (.ptr (8000+i) 0))] (fxL slot turns R X.length loads sil arr r0 r2) R X).Ca [(.s 12,some (.v (.c (.ptr 100 0))))]).Ca [(.s 13,some (.v (.c (.ptr (8000+i) 0))))] (.b n)=some (.k b):=fun n b h=>by
  rw[Q7,Q7];exact h
 obtain⟨rb,ro,cap,HF⟩:=Tw (slot:=slot) (turns:=turns) (R:=R) (loads:=loads) (sil:=sil) (len:=arr.length) (X:=X) hs2 (by omega) (hB 100 _ (Vg rfl)) (fun j hj=>hB _ _ (Kn hf hX hj)) (fun j hj=>hB _ _ (LI hf hX hj));have hr12:a2.eval (.tmp 12)=pvo (ρ 100).blk 0:=hs2.fr 12 (.c (.ptr 100 0)) rfl;have hr13:a2.eval (.tmp 13)=pvo (ρ (8000+i)).blk 0:=hs2.fr 13 (.c (.ptr (8000+i) 0)) rfl;have hRi:ρ (8000+i)=R i:=hs2.bk (20000+i) _ (hB _ _ (LI hf hX hi));rw[hRi] at hr13;have hrun:=Sc (P:=Tryz.prog) (w:=w2) (a:=a2) (d:=14) (g:=129) (xs:=[.tmp 12,.tmp 13]) (ats:=#[131,136]) (ty:=196) (pos:=p2) (af:=af1) (gd:=none) (enters_of Tryz.func129 (by kernel_rfl) rfl);simp only[List.map_cons,List.map_nil,hr12,hr13] at hrun;refine QS hrun (PQ (pvo (ρ 100).blk 0) (pvo (R i).blk 0) rfl rfl w2) ?_;rintro v14 w3 ⟨b1,b2,rfl,hc1,hc2,hb3⟩;have HF3:=HF.grow hb3;have hs3:=(hs2.grow hb3).put (d:=14) (by decide) (x:=G1 (.func (.func 174) #[] #[pvo b1 0,pvo b2 0])) (v:=.func (.func 174) #[] #[pvo b1 0,pvo b2 0]) ⟨rfl,rfl⟩ (fun nm hn=>by cases hn);have hr14:(a2.put (some 14) (.func (.func 174) #[] #[pvo b1 0,pvo b2 0])).eval (.tmp 14)=.func (.func 174) #[] #[pvo b1 0,pvo b2 0]:=(hs3.fr 14 (G1 _) rfl).1;have hrun:=Sc (P:=Tryz.prog) (w:=w3) (a:=a2.put (some 14) (.func (.func 174) #[] #[pvo b1 0,pvo b2 0])) (d:=15) (g:=128) (xs:=[.tmp 14]) (ats:=#[196]) (ty:=133) (pos:=p3) (af:=af2) (gd:=none) (enters_of Tryz.func128 (by kernel_rfl) rfl);simp only[List.map_cons,List.map_nil,hr14] at hrun;have hseq:=NR (w:=w3) (n:=X.length) (i:=i) (B:=fun j=>(R j).blk) (X:=X) (sil:=sil) (slot:=slot) (b1:=b1) (b2:=b2) (bs:=(ρ 100).blk) (rb:=rb) (ro:=ro) (cap:=cap) rfl hi (by omega) hc1 hc2 HF3.s0 HF3.s2 HF3.s4 HF3.hr HF3.hB HF3.hc HF3.inj;refine QS hrun (QL (own:=fun _=>False) (fun h=>h) (fun h=>h) (enters_of Tryz.func174 (by kernel_rfl) rfl) (N:=X.length+1) (by omega) hseq) ?_;rintro v15 w4 ⟨xs,rfl,hrow,hb4⟩;obtain⟨r,hv15,hr,_,hbk⟩:=NU hrow;have hs4:=hs3.Agd hb4 (nm:=15) (by
  show(As (DL (fxL slot turns R X.length loads sil arr r0 r2) R (X.map Wk.cs)) 15).map Item.k=none;rw[Vf (by decide) rfl];rfl) r hr (hbk ρ Im 15) (fun m=>by
  have:=AY (enc:=LX) (l:=(Bv sil slot X i).map fun j=>(R j).blk) (T:=136) (sz:=1);cases hm:(Blk.row 136 1 (rowOf LX ((Bv sil slot X i).map fun j=>(R j).blk))).mentions m with
  |false=>rfl
  |true=>have h2:=Blk.A3 hm;rw[this] at h2;cases h2)
 have hs5:=hs4.put (d:=15) (by decide) (x:=.c (.row 15 ((Bv sil slot X i).map fun j=>(R j).blk).length)) (v:=v15) (by
  show v15=if(EV ρ 15 r 15).isNil then _ else _
  rw[show EV ρ 15 r 15=r by simp[EV]];exact hv15) (fun nm hn=>by
   have:15=nm:=by simpa [AV.mentions,AV.AP,C.mentions] using hn
   subst this;rw[St.AA];simp)
 refine H0 1 (by simp only[List.take_succ_cons,List.take_zero];rfl) (by simp only[List.drop_succ_cons,List.drop_zero];rfl) ?_;refine Kq hno ?_ _ _ ⟨_,_,hs5⟩
 repeat'(first|refine sA ?_|refine Ak rfl (by exact tt0) ?_|fail)
 refine WK (σ':=lsS [(0,.c (.ptr 100 0)),(1,.c (.ptr (8000+i) 0)),(4,.c (.row 15 (WN R (Bv sil slot X i)).length))] ((15,.row 136 1 (rowOf LX (WN R (Bv sil slot X i)))) :: (fxL slot turns R X.length loads sil arr r0 r2)) R X) ?_ ?_
 ·refine F1 ?_ hX ⟨⟨_,rfl,.c (.ptr rfl)⟩,⟨_,rfl,.c (.ptr rfl)⟩,⟨_,rfl,.c (.row rfl rfl)⟩,trivial⟩ ⟨⟨_,rfl,.row (WV.Ep _)⟩,⟨_,rfl,.box (CWs.Ep _)⟩,⟨_,rfl,.row (WV.Ep _)⟩,⟨_,rfl,.pin rfl⟩,⟨_,rfl,.pin rfl⟩,trivial⟩ (fun j hj=>?_) (fun j hj=>?_) ?_ ?_
  ·intro p hp;rcases AgD.1 hp with rfl|hp
   ·simp
   ·exact hf p hp
  ·rw[Q7,Gd,Eo (by omega)];exact Kn (l:=[]) hf hX hj
  ·rw[Q7,Gd,Eo (by omega)];exact LI (l:=[]) hf hX hj
  ·have hli:=LK (FX:=(15,.row 136 1 (rowOf LX (WN R (Bv sil slot X i)))) :: (fxL slot turns R X.length loads sil arr r0 r2)) (R:=R) (by
    intro p hp;rcases AgD.1 hp with rfl|hp
    ·simp
    ·exact hf p hp) hX hi
   intro p hp;simp only[AgD,Agq,or_false] at hp;rcases hp with rfl|rfl|rfl<;>refine⟨rfl,fun n hn=>?_⟩<;>simp only[AV.names,AV.Ch,C.names,AgD,Agq,or_false] at hn<;>subst hn<;>first|rfl|exact hli
  ·intro p hp;simp only[fxL,AgD,Agq,or_false] at hp;rcases hp with rfl|rfl|rfl|rfl|rfl<;>intro n hn
   ·rw[AY] at hn;cases hn
   ·simp only[Blk.names,List.flatMap_cons,List.flatMap_nil,C.names,List.nil_append,AgF,AgD,Agq,or_false] at hn;subst hn;rfl
   ·rw[AY] at hn;cases hn
   ·simp only[Blk.names,AgD,Agq,or_false] at hn;subst hn;rfl
   ·simp only[Blk.names,AgD,Agq,or_false] at hn;subst hn;rfl
 intro a6 w6 hs6;exact⟨_,hs6,B1 h⟩
end Go.Proofs.M
end
section
namespace Go.Proofs
open Go Go.Sx Go.Proofs.T Go.Proofs.Q
set_option maxRecDepth 4000
attribute [local irreducible] VR VC thenQ blockQ retL
theorem XF (t:Tb) (Bk CY:Int):FnS Tryz.prog 40 [tbA t,AI Bk,AI CY] [] (.tup [stA (MF t Bk CY).1,AI (MF t Bk CY).2]) []:=by
 have hck:=D4 t;refine fb Tryz.func40 (by kernel_rfl) rfl Tryz.ntmps40 Tryz.results40 rfl rfl rfl rfl fun E hS=>?_
 refine AJ ?_;by_cases hc:Cl t=0
 ·rw[hc] at hck;have hl:=Cn hc;by_cases hr:Bk<1\/64<Bk\/CY<0\/2147483647<CY
  ·have e:MF t Bk CY=(noS,2):=by rw[MF,AgY (by omega),AgZ hr]
   rw[e]
   repeat'(first|refine sR ?_|refine Ak rfl (by exact tt0) ?_|(refine gC ?_;first|refine Aa (hck) (gk rfl) rfl rfl rfl (by rfl) rfl (by exact Av) rfl ?_|refine Aa (BD _ _) (gk rfl) rfl rfl rfl (by rfl) rfl (by exact Av) rfl ?_)|(refine Ax rfl ?_ ?_<;>intro h<;>have hq:=h<;>(try simp only[hqs] at hq))|refine sq 5 rfl ?_|(refine gD ?_;first|refine Ai rfl ?_|refine Ah rfl ?_|(refine Ay rfl ?_ ?_<;>intro h<;>have hq:=h<;>(try simp only[hqs] at hq)))|fail)
   all_goals first
    |(exfalso;omega)
    |skip
   ·refine Ao (Am (l:=[(6,.c (.ptr 6 0)),(7,AI 2)]) (b:=[(6,.box noS.cs)]) (fun n=>n) ?_ ?_ rfl (by rfl)) (AL Ab rfl rfl rfl rfl rfl rfl rfl)
    all_goals repeat'(first|exact tt0|refine⟨⟨_,rfl,?_⟩,?_⟩|exact .c .d|exact .c (.ptr rfl)|refine .box ?_|exact .nil|refine .cons ?_ ?_|exact .d|fail)
   ·refine Ao (Am (l:=[(6,.c (.ptr 6 0)),(7,AI 2)]) (b:=[(6,.box noS.cs)]) (fun n=>n) ?_ ?_ rfl (by rfl)) (AL Ab rfl rfl rfl rfl rfl rfl rfl)
    all_goals repeat'(first|exact tt0|refine⟨⟨_,rfl,?_⟩,?_⟩|exact .c .d|exact .c (.ptr rfl)|refine .box ?_|exact .nil|refine .cons ?_ ?_|exact .d|fail)
   ·refine Ao (Am (l:=[(6,.c (.ptr 6 0)),(7,AI 2)]) (b:=[(6,.box noS.cs)]) (fun n=>n) ?_ ?_ rfl (by rfl)) (AL Ab rfl rfl rfl rfl rfl rfl rfl)
    all_goals repeat'(first|exact tt0|refine⟨⟨_,rfl,?_⟩,?_⟩|exact .c .d|exact .c (.ptr rfl)|refine .box ?_|exact .nil|refine .cons ?_ ?_|exact .d|fail)
  ·have e:MF t Bk CY=(⟨t,⟨Bk,[]⟩,[],[],0,0,-1,0,0,0,CY⟩,0):=by rw[MF,AgY (by omega),AgY hr]
   rw[e]
   repeat'(first|refine sB ?_|refine Ak rfl (by exact tt0) ?_|(refine gC ?_;first|refine Aa (hck) (gk rfl) rfl rfl rfl (by rfl) rfl (by exact Av) rfl ?_|refine Aa (BD _ _) (gk rfl) rfl rfl rfl (by rfl) rfl (by exact Av) rfl ?_|refine Aa (MZ t.cells (by omega)) (gk rfl) rfl rfl rfl (by(simp only[A0,wfL,AH,wfs,Ae,Ad];rfl)) rfl (by exact Bx) rfl ?_)|(refine Ax rfl ?_ ?_<;>intro h<;>have hq:=h<;>(try simp only[hqs] at hq))|(refine gD ?_;first|refine Ai rfl ?_|refine Ah rfl ?_|(refine Ay rfl ?_ ?_<;>intro h<;>have hq:=h<;>(try simp only[hqs] at hq)))|fail)
   all_goals first
    |(exfalso;omega)
    |skip
   refine Ao (Bm (l:=[(6,.c (.ptr 6 0)),(7,AI 0)]) (b:=[(6,.box (Sta.cs ⟨t,⟨Bk,[]⟩,[],[],0,0,-1,0,0,0,CY⟩))]) (fun n=>n) [26007] hS ?_ ?_ rfl (by rfl)) (AL Ab rfl rfl rfl rfl rfl rfl rfl)
   all_goals repeat'(first|exact tt0|refine⟨⟨_,rfl,?_⟩,?_⟩|exact .c .d|exact .c (.ptr rfl)|refine .box ?_|exact .nil|refine .cons ?_ ?_|exact .d|exact .Cd (by(simp;done)) rfl rfl (fun _=>rfl)|fail)
 ·have e:MF t Bk CY=(noS,1):=by rw[MF,AgZ hc]
  have hd:decide (Cl t≠0)=true:=by simp[hc]
  rw[e]
  repeat'(first|refine sB ?_|refine Ak rfl (by exact tt0) ?_|(refine gC ?_;first|refine Aa (hck) (gk rfl) rfl rfl rfl (by rfl) rfl (by exact Av) rfl ?_)|(refine gD ?_;first|refine Ai rfl ?_|refine At rfl (by assumption) ?_)|fail)
  refine Ao (Am (l:=[(6,.c (.ptr 6 0)),(7,AI 1)]) (b:=[(6,.box noS.cs)]) (fun n=>n) ?_ ?_ rfl (by rfl)) (AL Ab rfl rfl rfl rfl rfl rfl rfl)
  all_goals repeat'(first|exact tt0|refine⟨⟨_,rfl,?_⟩,?_⟩|exact .c .d|exact .c (.ptr rfl)|refine .box ?_|exact .nil|refine .cons ?_ ?_|exact .d|fail)
theorem J2 (s:Sta):FnS Tryz.prog 164 [stA s] [] (stA (DI s)) []:=by
 refine fb Tryz.func164 (by kernel_rfl) rfl Tryz.ntmps164 Tryz.results164 rfl rfl rfl rfl fun E hS=>?_
 repeat'(first|refine sB ?_|refine Ak rfl (by exact tt0) ?_|(refine gC ?_;first|refine Aa (MS s.qu s.Bl) (gk rfl) rfl rfl rfl (by rfl) rfl (by exact Av) rfl ?_)|(refine Ax rfl ?_ ?_<;>intro h<;>have hq:=h<;>(try simp only[hqs] at hq))|(refine gD ?_;first|refine Ah rfl ?_|(refine Ay rfl ?_ ?_<;>intro h<;>have hq:=h<;>(try simp only[hqs] at hq)))|fail)
 all_goals first
  |(rw[DI,AgZ ⟨by assumption,by assumption⟩]
    exact BR Ab rfl rfl rfl rfl rfl)
  |(rw[DI,AgY (by rintro⟨h1,h2⟩;first|omega|simp_all)]
    exact BR Ab rfl rfl rfl rfl rfl)
set_option maxHeartbeats 2000000 in
theorem Vb (s:Sta) (p:Pk):FnS Tryz.prog 165 [stA s,pkA p] [] (.tup [stA (I3 s p).1,AD (pks (I3 s p).2.1),AI (I3 s p).2.2]) []:=by
 have hck:=Dv s;refine fb Tryz.func165 (by kernel_rfl) rfl Tryz.ntmps165 Tryz.results165 rfl rfl rfl rfl fun E hS=>?_
 refine AJ ?_;by_cases hc:AQ s=0
 ·rw[hc] at hck;by_cases he:(EW s.qu p).2.2=0
  ·by_cases ht:p.to=s.tb.node
   ·have e:I3 s p=(noS,[],12):=by rw[I3,AgY (by omega),AgY (by omega),AgZ ht]
    have d1:decide ((EW s.qu p).2.2≠0)=false:=Agk (by omega);have d2:decide (p.to=s.tb.node)=true:=Agj ht;rw[e]
    repeat'(first|refine sC ?_|refine Ak rfl (by exact tt0) ?_|(refine gC ?_;first|refine Aa (hck) (gk rfl) rfl rfl rfl (by rfl) rfl (by exact Av) rfl ?_|refine Aa (Jv s.qu p) (gk rfl) rfl rfl rfl (by rfl) rfl (by exact Av) rfl ?_)|(refine gD ?_;first|refine Ai rfl ?_|refine Ah rfl ?_|refine At rfl (by assumption) ?_)|fail)
    refine Ao (Am (l:=[(4,.c (.ptr 4 0)),(5,AD (pks [])),(6,AI 12)]) (b:=[(4,.box noS.cs)]) (fun n=>n) ?_ ?_ rfl (by rfl)) (Bt Ab rfl rfl rfl rfl rfl rfl rfl rfl rfl)
    all_goals repeat'(first|exact tt0|refine⟨⟨_,rfl,?_⟩,?_⟩|exact .c .d|exact .c (.ptr rfl)|exact .c .nil|refine .box ?_|exact .nil|refine .cons ?_ ?_|exact .d|fail)
   ·have d1:decide ((EW s.qu p).2.2≠0)=false:=Agk (by omega);have d2:decide (p.to=s.tb.node)=false:=Agk ht;by_cases hz:100<p.data.size
    ·have e:I3 s p=(noS,[],8):=by rw[I3,AgY (by omega),AgY (by omega),AgY ht,AgZ hz]
     have d3:decide ((100:Int)<(p.data.size:Nat))=true:=Agj (by omega);rw[e]
     repeat'(first|refine sC ?_|refine Ak rfl (by exact tt0) ?_|(refine gC ?_;first|refine Aa (hck) (gk rfl) rfl rfl rfl (by rfl) rfl (by exact Av) rfl ?_|refine Aa (Jv s.qu p) (gk rfl) rfl rfl rfl (by rfl) rfl (by exact Av) rfl ?_)|(refine gD ?_;first|refine Ai rfl ?_|refine Ah rfl ?_|refine At rfl (by assumption) ?_)|fail)
     refine Ao (Am (l:=[(4,.c (.ptr 4 0)),(5,AD (pks [])),(6,AI 8)]) (b:=[(4,.box noS.cs)]) (fun n=>n) ?_ ?_ rfl (by rfl)) (Bt Ab rfl rfl rfl rfl rfl rfl rfl rfl rfl)
     all_goals repeat'(first|exact tt0|refine⟨⟨_,rfl,?_⟩,?_⟩|exact .c .d|exact .c (.ptr rfl)|exact .c .nil|refine .box ?_|exact .nil|refine .cons ?_ ?_|exact .d|fail)
    ·have e:I3 s p=(DI {s with qu:=(EW s.qu p).1},(EW s.qu p).2.1,0):=by rw[I3,AgY (by omega),AgY (by omega),AgY ht,AgY hz]
     have d3:decide ((100:Int)<(p.data.size:Nat))=false:=Agk (by omega);rw[e]
     repeat'(first|refine sR ?_|refine Ak rfl (by exact tt0) ?_|(refine gC ?_;first|refine Aa (hck) (gk rfl) rfl rfl rfl (by rfl) rfl (by exact Av) rfl ?_|refine Aa (Jv s.qu p) (gk rfl) rfl rfl rfl (by rfl) rfl (by exact Av) rfl ?_|refine Aa (DE s hc) (gk rfl) rfl rfl rfl (by(simp only[A0,wfL,AH,wfs,Ae,Ad];rfl)) rfl (by((simp only[Ex,List.map_cons,List.map_nil,Blk.shift,Cr])<;>rfl)) rfl ?_)|refine sq 12 rfl ?_|(refine gD ?_;first|refine Ah rfl ?_|refine At rfl (by assumption) ?_)|refine B0 ?_|fail)
     refine VC.le (σ':=AS [(2,.c (.ptr 2 0)),(4,.c (.ptr 4 0)),(5,AD .Db),(6,AI 0),(8,AD (pks (EW s.qu p).2.1))] [(2,.box (Sta.cs {s with qu:=(EW s.qu p).1})),(4,.box noS.cs)]) ?_ ?_
     ·refine Bm (fun n=>n) [42101,42102] hS ?_ ?_ rfl (by rfl)
      all_goals repeat'(first|exact tt0|refine⟨⟨_,rfl,?_⟩,?_⟩|exact .c .d|exact .c (.ptr rfl)|refine .box ?_|exact .nil|refine .cons ?_ ?_|exact .d|exact .Cd (by(simp;done)) rfl rfl (fun _=>rfl)|fail)
     repeat'(first|refine sB ?_|refine Ak rfl (by exact tt0) ?_|(refine gC ?_;first|refine Aa (J2 {s with qu:=(EW s.qu p).1}) (gk rfl) rfl rfl rfl (by rfl) rfl (by exact Av) rfl ?_)|fail)
     refine Ao (Am (l:=[(4,.c (.ptr 4 0)),(5,AD (pks (EW s.qu p).2.1)),(6,AI 0)]) (b:=[(4,.box (DI {s with qu:=(EW s.qu p).1}).cs)]) (fun n=>n) ?_ ?_ rfl (by rfl)) (Bt Ab rfl rfl rfl rfl rfl rfl rfl rfl rfl)
     all_goals repeat'(first|exact tt0|refine⟨⟨_,rfl,?_⟩,?_⟩|exact .c .d|exact .c (.ptr rfl)|exact .Bs rfl rfl|fail)
  ·have e:I3 s p=(noS,[],(EW s.qu p).2.2):=by rw[I3,AgY (by omega),AgZ he]
   have d1:decide ((EW s.qu p).2.2≠0)=true:=Agj he;rw[e]
   repeat'(first|refine sC ?_|refine Ak rfl (by exact tt0) ?_|(refine gC ?_;first|refine Aa (hck) (gk rfl) rfl rfl rfl (by rfl) rfl (by exact Av) rfl ?_|refine Aa (Jv s.qu p) (gk rfl) rfl rfl rfl (by rfl) rfl (by exact Av) rfl ?_)|(refine gD ?_;first|refine Ai rfl ?_|refine Ah rfl ?_|refine At rfl (by assumption) ?_)|fail)
   refine Ao (Am (l:=[(4,.c (.ptr 4 0)),(5,AD (pks [])),(6,AI (EW s.qu p).2.2)]) (b:=[(4,.box noS.cs)]) (fun n=>n) ?_ ?_ rfl (by rfl)) (Bt Ab rfl rfl rfl rfl rfl rfl rfl rfl rfl)
   all_goals repeat'(first|exact tt0|refine⟨⟨_,rfl,?_⟩,?_⟩|exact .c .d|exact .c (.ptr rfl)|exact .c .nil|refine .box ?_|exact .nil|refine .cons ?_ ?_|exact .d|fail)
 ·have e:I3 s p=(noS,[],1):=by rw[I3,AgZ hc]
  have hd:decide (AQ s≠0)=true:=by simp[hc]
  rw[e]
  repeat'(first|refine sB ?_|refine Ak rfl (by exact tt0) ?_|(refine gC ?_;first|refine Aa (hck) (gk rfl) rfl rfl rfl (by rfl) rfl (by exact Av) rfl ?_)|(refine gD ?_;first|refine Ai rfl ?_|refine At rfl (by assumption) ?_)|fail)
  refine Ao (Am (l:=[(4,.c (.ptr 4 0)),(5,AD (pks [])),(6,AI 1)]) (b:=[(4,.box noS.cs)]) (fun n=>n) ?_ ?_ rfl (by rfl)) (Bt Ab rfl rfl rfl rfl rfl rfl rfl rfl rfl)
  all_goals repeat'(first|exact tt0|refine⟨⟨_,rfl,?_⟩,?_⟩|exact .c .d|exact .c (.ptr rfl)|exact .c .nil|refine .box ?_|exact .nil|refine .cons ?_ ?_|exact .d|fail)
end Go.Proofs
end
