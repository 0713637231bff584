/-
  Functions' results, and laws on them. No condition.
-/
import Derived.Test.YtdlcbilgemnomaaGreatSxMaj
import Derived.Test.YtdlcbilgemnomaaGreatSxMal
import Derived.Test.YtdlcbilgemnomaaGreatSxMak
set_option linter.unusedSimpArgs false
set_option linter.unusedVariables false
set_option maxRecDepth 4000
set_option maxHeartbeats 16000000
open Go.Proofs.Tryz
namespace Go.Proofs
open Go Go.Sx Go.Proofs.T Go.Proofs.Q
attribute [local irreducible] VR VC thenQ blockQ retL
def bcn (src slot rank epoch:Nat) (d:ByteArray):Fr:=⟨3,src,-1,0,0,0,0,0,slot,rank,epoch,d⟩
abbrev AiY:AV:=.agg [.d (.int .i64 0),.d (.int .i64 0),.d (.int .i64 0),.d .Df]
abbrev Aen (b:Bool):AV:=.agg [.d (.int .i64 0),.d (.bool b),.d (.str ⟨#[]⟩),.d (.int .i64 0),.d (.int .i64 0),.d (.int .i64 0),.d .Df]
theorem Mr:Ak 230 [AiY] (AB true):=by
 refine Ao func230 ntmps230 results230 fun E hS=>?_
 repeat'(first|refine Ad ?_|fail)
 exact AO
theorem YM (b:Bool):Ak 225 [Aen b] (AI 0):=by
 refine Ao func225 ntmps225 results225 fun E hS=>?_
 repeat'(first|refine Af ?_|refine Aa (Mr) ?_|fail)
 exact AZ
def Ahu (b:Bool):List Bool:=SS (Ep 5 0++[b]) 4 ⟨#[]⟩++[false]
def AaA (b:Bool):ByteArray:=mkS (CD (Ahu b))
theorem Abq (b:Bool):(Ahu b).length=11:=by
 rw[Ahu,Ajy,Qm,Ajy,HU];rfl
theorem YL (b:Bool):Ak 167 [Aen b] (.tup [AD (.str (AaA b)),AI 0]):=by
 have l1:=HU 5 0;have u1:=NF [] 5 0 (by decide) (by decide) (by decide);have u2:=N8 (Ep 5 0) b (by omega);have u3:=Wt (Ep 5 0++[b]) 8 4 ⟨#[]⟩ (by decide) (by rw[Aih];rfl) (by decide) (by decide) (by decide) (by rw[Ajy];simp[l1]);have u4:=N8 (SS (Ep 5 0++[b]) 4 ⟨#[]⟩) false (by rw[Qm,Ajy,l1,show(⟨#[]⟩:ByteArray).size=0 from rfl];simp);have u5:=Tw (Ahu b) (by rw[Abq];decide);rw[Akp] at u1;refine Ao func167 ntmps167 results167 fun E hS=>?_
 repeat'(first|refine AJ ?_|refine Aa (YM b) ?_|refine Aa (Wv) ?_|refine sq 5 rfl ?_|fail)
 refine VC.le (σ':=AN [(1,.c (.ptr 1 0)),(5,.c (.ptr 100 0))] [(1,.box [.d (.int .i64 0),.d (.bool b),.d (.str ⟨#[]⟩),.d (.int .i64 0),.d (.int .i64 0),.d (.int .i64 0),.d .Df]),(100,.box [.row 101 0,.d (.int .i64 0),.d (.int .i64 0)]),(101,.row 5 1 (rowOf EC []))]) ?_ ?_
 ·exact BF (fun n=>if n=100 then 13100 else if n=101 then 13101 else n)
 repeat'(first|refine AJ ?_|refine A1 (nmL []) [] [100] (u1) ?_|refine sq 6 rfl ?_|fail)
 repeat'(first|refine AJ ?_|refine A1 (nmL [(101,17102)]) [] [100] (u2) ?_|refine sq 7 rfl ?_|fail)
 repeat'(first|refine AJ ?_|refine A1 (nmL [(101,21102)]) [] [100] (u3) ?_|refine sq 8 rfl ?_|fail)
 repeat'(first|refine AJ ?_|refine Aa (Mr) ?_|refine A1 (nmL [(101,25102)]) [] [100] (u4) ?_|refine sq 9 rfl ?_|fail)
 repeat'(first|refine Ad ?_|refine Aa (Mr) ?_|refine A1 (nmL [(101,31102)]) [] [100,101] (u5) ?_|fail)
 exact Bg
theorem Aam {src slot rank epoch:Nat} {d:ByteArray} (h0:src<=31) (h1:slot<=109951162) (h2:rank<=65535) (h3:epoch<=65535):Fk (bcn src slot rank epoch d)=0:=by
 rw[Fy];refine⟨⟨by show(0:Int)<=(src:Int)/\(src:Int)<=31;omega,by show(0:Int)<=0/\(0:Int)<=255;omega,by show(0:Int)<=0/\(0:Int)<=255;omega⟩,.inr (.inr (.inl ⟨rfl,rfl,?_,?_,?_,rfl,rfl,rfl⟩))⟩
 ·show(0:Int)<=(slot:Int)/\(slot:Int)<=109951162;omega
 ·show(0:Int)<=(rank:Int)/\(rank:Int)<=65535;omega
 ·show(0:Int)<=(epoch:Int)/\(epoch:Int)<=65535;omega
end Go.Proofs
namespace Go.Proofs.R
open Go Go.Sx Go.Proofs.P
attribute [local irreducible] VR VC thenQ blockQ retL
theorem Y2 (nd ep rk slot:Nat) (p h le:Int) (h0:nd<=31) (h1:slot<=109951162) (h2:rk<=65534) (h3:ep<=65535):
  Ak 125 [rkA ⟨nd,ep,p,h,rk,le⟩,AI 0,AI 0,AI slot,Aen false] (.tup [frA (bcn nd slot rk ep (AaA false)),AI 0]):=by
 have hc:=Nc (bcn nd slot rk ep (AaA false));rw[Aam h0 h1 (by omega) h3] at hc;have d1:=Cc ((65535:Int)<=(rk:Int));refine Ao func125 ntmps125 results125 fun E hS=>?_
 repeat'(first|refine Ad ?_|refine Aa (YL false) ?_|refine Aa (hc) ?_|fail)
 exact CO Ae rfl rfl rfl rfl rfl rfl rfl
end Go.Proofs.R
