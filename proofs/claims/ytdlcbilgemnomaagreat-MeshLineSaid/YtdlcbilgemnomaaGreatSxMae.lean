/-
  What functions of the program hand back, and plain laws on that. No condition.
-/
import Derived.Test.YtdlcbilgemnomaaGreatSxMad
import Derived.Test.YtdlcbilgemnomaaGreatSxMab
import Derived.Test.YtdlcbilgemnomaaGreatSxLibC
set_option linter.unusedSimpArgs false
set_option linter.unusedVariables false
section
namespace Go.Proofs
open Go Go.Sx Go.Proofs.T Go.Proofs.Q
set_option maxRecDepth 4000
attribute [local irreducible] VR VC thenQ blockQ retL
theorem Hs (B:List Bool) (w n:Nat) (b1 b2:Bool) (hb1:b1=true) (hb2:b2=true) (hw:w<=63) (hn:n<2^63) (hB:B.length<=4000):FnW Tryz.prog 276 [.c (.ptr 100 0),AB b1,AB b2,AI w,AI n] [(100,.box [.row 101 (BH B).length,.d (.int .i64 B.length),.d (.int .i64 0)]),(101,.row 5 1 (rowOf He (BH B)))] [100] (.tup []) [(100,.box [.row 102 (BH (B++CQ w n)).length,.d (.int .i64 (B++CQ w n).length),.d (.int .i64 0)]),(102,.row 5 1 (rowOf He (BH (B++CQ w n))))]:=by
 subst hb1 hb2;have hp:=Kf B w n hw hn hB;intro r;simp only[Cg,List.map_cons,List.map_nil,List.cons_append,List.nil_append,Nat.reduceAdd];refine FnS.Bw (enters_of Tryz.func276 (by kernel_rfl) rfl) Tryz.func276 rfl Tryz.ntmps276 Tryz.results276 rfl (by first|rfl|(simp only[A0,wfL,AH,wfs,Ae,Ad];rfl)) rfl fun E=>?_
 refine AJ ?_
 repeat'(first|(refine gR ?_;first|refine Ak rfl (by first|exact tt0|omega) ?_|(refine gC ?_;first|refine B4 (nmL []) [] [100] (hp) (gk rfl) rfl rfl (by(repeat'(first|exact .nil|refine .cons ?_ ?_|exact .w (.c (.ptr rfl)) rfl|exact .r (.of0 (.c .d))))<;>fail) (by(repeat'(first|exact tt0|refine⟨⟨_,rfl,?_⟩,?_⟩|exact .Bc rfl Ag|refine .box ?_|exact .nil|refine .cons ?_ ?_|exact .d|exact .row rfl rfl))<;>fail) rfl rfl rfl (by rfl) rfl (by(simp only[A0,wfL,AH,wfs,Ae,Ad];rfl)) rfl rfl rfl (by(simp only[F5,List.map_cons,List.map_nil,Blk.ren,C.ren,Bp,BU,BT,gW,D1,nmL,Nat.reduceBEq,Bool.or_false,Bool.or_true,Bool.false_or,Bool.true_or,cond_true,cond_false,Nat.reduceMul,Nat.reduceAdd])<;>rfl) (by(simp only[AV.ren,AV.HQ,List.map_cons,List.map_nil,C.ren,gW,D1,nmL,Nat.reduceBEq,Bool.or_false,Bool.or_true,Bool.false_or,Bool.true_or,cond_true,cond_false,Nat.reduceMul,Nat.reduceAdd])<;>rfl) rfl ?_)|(refine gN ?_;first|refine Aj (gk rfl) rfl rfl ?_)|(refine gV ?_;first|refine A4 (gk rfl) rfl ⟨_,rfl⟩ rfl (by exact wrap_u64 (by omega)) rfl ?_))|(refine gO ?_;first|refine De ?_)|(refine gT ?_;first|refine B1 ?_)|(refine gK ?_;first|refine Gj ?_)|refine BC ?_|refine Bg ?_|(show VC _ (.cond _ _ _) _ _;first|refine Ah rfl ?_|(refine Ay rfl ?_ ?_<;>intro h<;>have hq:=h<;>(try simp only[hqs] at hq)))|refine B0 ?_)
 all_goals first
  |(exfalso;omega)
  |skip
 refine Ao (Am (l:=[]) (b:=[(9100,.pin 100 (r 100)),(100,.box [.row 102 (BH (B++CQ w n)).length,.d (.int .i64 (B++CQ w n).length),.d (.int .i64 0)]),(102,.row 5 1 (rowOf He (BH (B++CQ w n))))]) (fun n=>if n=102 then 14102 else n) ?_ ?_ rfl (by(simp only[wfL,wfs,Ae,Ad];rfl))) (DG BQ .nil rfl (by repeat'(first|exact tt0|refine⟨rfl,?_⟩)))
 all_goals repeat'(first|exact tt0|refine⟨⟨_,rfl,?_⟩,?_⟩|exact .pin rfl|exact .Bc rfl Ag|refine .box ?_|exact .nil|refine .cons ?_ ?_|exact .d|exact .row rfl rfl|fail)
theorem K7 (B:List Bool) (w n:Nat) (hw:1<=w/\w<=32) (hn:n<2^w) (hB:B.length<=4000):FnW Tryz.prog 227 [.c (.ptr 100 0),AI w,AI n] [(100,.box [.row 101 (BH B).length,.d (.int .i64 B.length),.d (.int .i64 0)]),(101,.row 5 1 (rowOf He (BH B)))] [100] (.tup []) [(100,.box [.row 102 (BH (B++CQ w n)).length,.d (.int .i64 (B++CQ w n).length),.d (.int .i64 0)]),(102,.row 5 1 (rowOf He (BH (B++CQ w n))))]:=by
 have h32:n<2^32:=AgK hn (Nat.pow_le_pow_right (by decide) hw.2);have hl:=AaC hn hw.2;have hle:=RO n h32;have d1:decide ((1:Int)<=(w:Int))=true:=Agj (by omega);have d2:decide ((w:Int)<=63)=true:=Agj (by omega);have d3:decide ((0:Int)<=(n:Int))=true:=Agj (by omega);have d4:decide (Vk n<=(w:Int))=true:=Agj hl.2;have hf:=Hs B w n _ _ d2 d4 (by omega) (by omega) hB;intro r;simp only[Cg,List.map_cons,List.map_nil,List.cons_append,List.nil_append,Nat.reduceAdd];refine FnS.Bw (enters_of Tryz.func227 (by kernel_rfl) rfl) Tryz.func227 rfl Tryz.ntmps227 Tryz.results227 rfl (by first|rfl|(simp only[A0,wfL,AH,wfs,Ae,Ad];rfl)) rfl fun E=>?_
 refine AJ ?_
 repeat'(first|(refine gR ?_;first|refine Ak rfl (by exact tt0) ?_|(refine gC ?_;first|refine Aa (hle) (gk rfl) rfl rfl rfl (by rfl) rfl (by exact Av) rfl ?_|refine B4 (nmL []) [] [100] (hf) (gk rfl) rfl rfl (by(repeat'(first|exact .nil|refine .cons ?_ ?_|exact .w (.c (.ptr rfl)) rfl|exact .r (.of0 (.c .d))))<;>fail) (by(repeat'(first|exact tt0|refine⟨⟨_,rfl,?_⟩,?_⟩|exact .Bc rfl Ag|refine .box ?_|exact .nil|refine .cons ?_ ?_|exact .d|exact .row rfl rfl))<;>fail) rfl rfl rfl (by rfl) rfl (by(simp only[A0,wfL,AH,wfs,Ae,Ad];rfl)) rfl rfl rfl (by(simp only[F5,List.map_cons,List.map_nil,Blk.ren,C.ren,Bp,BU,BT,gW,D1,nmL,Nat.reduceBEq,Bool.or_false,Bool.or_true,Bool.false_or,Bool.true_or,cond_true,cond_false,Nat.reduceMul,Nat.reduceAdd])<;>rfl) (by(simp only[AV.ren,AV.HQ,List.map_cons,List.map_nil,C.ren,gW,D1,nmL,Nat.reduceBEq,Bool.or_false,Bool.or_true,Bool.false_or,Bool.true_or,cond_true,cond_false,Nat.reduceMul,Nat.reduceAdd])<;>rfl) rfl ?_)|(refine gV ?_;first|refine A4 (gk rfl) rfl ⟨_,rfl⟩ rfl (by exact wrap_u64 (by omega)) rfl ?_)|refine Az rfl (by assumption) ?_)|(refine gO ?_;first|refine De ?_)|(refine gT ?_;first|refine B1 ?_)|refine BC ?_|refine Bg ?_)
 refine Ao (Am (l:=[]) (b:=[(9100,.pin 100 (r 100)),(100,.box [.row 102 (BH (B++CQ w n)).length,.d (.int .i64 (B++CQ w n).length),.d (.int .i64 0)]),(102,.row 5 1 (rowOf He (BH (B++CQ w n))))]) (fun n=>if n=102 then 29102 else n) ?_ ?_ rfl (by(simp only[wfL,wfs,Ae,Ad];rfl))) (DG BQ .nil rfl (by repeat'(first|exact tt0|refine⟨rfl,?_⟩)))
 all_goals repeat'(first|exact tt0|refine⟨⟨_,rfl,?_⟩,?_⟩|exact .pin rfl|exact .Bc rfl Ag|refine .box ?_|exact .nil|refine .cons ?_ ?_|exact .d|exact .row rfl rfl|fail)
theorem LC (B:List Bool) (b:Bool) (hB:B.length<=4000):FnW Tryz.prog 228 [.c (.ptr 100 0),AB b] [(100,.box [.row 101 (BH B).length,.d (.int .i64 B.length),.d (.int .i64 0)]),(101,.row 5 1 (rowOf He (BH B)))] [100] (.tup []) [(100,.box [.row 102 (BH (B++[b])).length,.d (.int .i64 (B++[b]).length),.d (.int .i64 0)]),(102,.row 5 1 (rowOf He (BH (B++[b]))))]:=by
 have h1:=Hs B 1 1 true true rfl rfl (by decide) (by decide) hB;have h0:=Hs B 1 0 true true rfl rfl (by decide) (by decide) hB;rw[show CQ 1 1=[true] from rfl] at h1;rw[show CQ 1 0=[false] from rfl] at h0;intro r;simp only[Cg,List.map_cons,List.map_nil,List.cons_append,List.nil_append,Nat.reduceAdd];refine FnS.Bw (enters_of Tryz.func228 (by kernel_rfl) rfl) Tryz.func228 rfl Tryz.ntmps228 Tryz.results228 rfl (by first|rfl|(simp only[A0,wfL,AH,wfs,Ae,Ad];rfl)) rfl fun E=>?_
 refine AJ ?_;cases b with
 |true=>
  repeat'(first|(refine gR ?_;first|refine Ak rfl (by exact tt0) ?_|(refine gC ?_;first|refine B4 (nmL []) [] [100] (h1) (gk rfl) rfl rfl (by(repeat'(first|exact .nil|refine .cons ?_ ?_|exact .w (.c (.ptr rfl)) rfl|exact .r (.of0 (.c .d))))<;>fail) (by(repeat'(first|exact tt0|refine⟨⟨_,rfl,?_⟩,?_⟩|exact .Bc rfl Ag|refine .box ?_|exact .nil|refine .cons ?_ ?_|exact .d|exact .row rfl rfl))<;>fail) rfl rfl rfl (by rfl) rfl (by(simp only[A0,wfL,AH,wfs,Ae,Ad];rfl)) rfl rfl rfl (by(simp only[F5,List.map_cons,List.map_nil,Blk.ren,C.ren,Bp,BU,BT,gW,D1,nmL,Nat.reduceBEq,Bool.or_false,Bool.or_true,Bool.false_or,Bool.true_or,cond_true,cond_false,Nat.reduceMul,Nat.reduceAdd])<;>rfl) (by(simp only[AV.ren,AV.HQ,List.map_cons,List.map_nil,C.ren,gW,D1,nmL,Nat.reduceBEq,Bool.or_false,Bool.or_true,Bool.false_or,Bool.true_or,cond_true,cond_false,Nat.reduceMul,Nat.reduceAdd])<;>rfl) rfl ?_))|(refine gO ?_;first|refine De ?_)|(refine gT ?_;first|refine B1 ?_)|refine BC ?_|refine Bg ?_|(show VC _ (.cond _ _ _) _ _;first|refine Ai rfl ?_))
  refine Ao (Am (l:=[]) (b:=[(9100,.pin 100 (r 100)),(100,.box [.row 102 (BH (B++[true])).length,.d (.int .i64 (B++[true]).length),.d (.int .i64 0)]),(102,.row 5 1 (rowOf He (BH (B++[true]))))]) (fun n=>if n=102 then 8102 else n) ?_ ?_ rfl (by(simp only[wfL,wfs,Ae,Ad];rfl))) (DG BQ .nil rfl (by repeat'(first|exact tt0|refine⟨rfl,?_⟩)))
  all_goals repeat'(first|exact tt0|refine⟨⟨_,rfl,?_⟩,?_⟩|exact .pin rfl|exact .Bc rfl Ag|refine .box ?_|exact .nil|refine .cons ?_ ?_|exact .d|exact .row rfl rfl|fail)
 |false=>
  repeat'(first|(refine gR ?_;first|refine Ak rfl (by exact tt0) ?_|(refine gC ?_;first|refine B4 (nmL []) [] [100] (h0) (gk rfl) rfl rfl (by(repeat'(first|exact .nil|refine .cons ?_ ?_|exact .w (.c (.ptr rfl)) rfl|exact .r (.of0 (.c .d))))<;>fail) (by(repeat'(first|exact tt0|refine⟨⟨_,rfl,?_⟩,?_⟩|exact .Bc rfl Ag|refine .box ?_|exact .nil|refine .cons ?_ ?_|exact .d|exact .row rfl rfl))<;>fail) rfl rfl rfl (by rfl) rfl (by(simp only[A0,wfL,AH,wfs,Ae,Ad];rfl)) rfl rfl rfl (by(simp only[F5,List.map_cons,List.map_nil,Blk.ren,C.ren,Bp,BU,BT,gW,D1,nmL,Nat.reduceBEq,Bool.or_false,Bool.or_true,Bool.false_or,Bool.true_or,cond_true,cond_false,Nat.reduceMul,Nat.reduceAdd])<;>rfl) (by(simp only[AV.ren,AV.HQ,List.map_cons,List.map_nil,C.ren,gW,D1,nmL,Nat.reduceBEq,Bool.or_false,Bool.or_true,Bool.false_or,Bool.true_or,cond_true,cond_false,Nat.reduceMul,Nat.reduceAdd])<;>rfl) rfl ?_))|(refine gO ?_;first|refine De ?_)|(refine gT ?_;first|refine B1 ?_)|refine BC ?_|refine Bg ?_|(show VC _ (.cond _ _ _) _ _;first|refine Ah rfl ?_)|refine EE ?_)
  refine Ao (Am (l:=[]) (b:=[(9100,.pin 100 (r 100)),(100,.box [.row 102 (BH (B++[false])).length,.d (.int .i64 (B++[false]).length),.d (.int .i64 0)]),(102,.row 5 1 (rowOf He (BH (B++[false]))))]) (fun n=>if n=102 then 8102 else n) ?_ ?_ rfl (by(simp only[wfL,wfs,Ae,Ad];rfl))) (DG BQ .nil rfl (by repeat'(first|exact tt0|refine⟨rfl,?_⟩)))
  all_goals repeat'(first|exact tt0|refine⟨⟨_,rfl,?_⟩,?_⟩|exact .pin rfl|exact .Bc rfl Ag|refine .box ?_|exact .nil|refine .cons ?_ ?_|exact .d|exact .row rfl rfl|fail)
def Pd (s:ByteArray) (i:Nat):Nat:=(s.data.toList.getD i 0).toNat
theorem Wr (s:ByteArray) (i:Nat):bAt s i=(Pd s i:Int):=rfl
theorem Wq (s:ByteArray) (i:Nat):Pd s i<256:=(s.data.toList.getD i 0).toNat_lt
def K4 (B:List Bool) (s:ByteArray):Nat->List Bool
 |0=>B
 |k+1=>K4 B s k++CQ 8 (Pd s k)
theorem JZ (B:List Bool) (s:ByteArray):∀k,(K4 B s k).length=B.length+8*k
 |0=>rfl
 |k+1=>by rw[K4,Agn,JZ B s k,Gu];omega
def K5 (B:List Bool) (w:Nat) (s:ByteArray):List Bool:=K4 (B++CQ w s.size) s s.size
theorem NK (B:List Bool) (w:Nat) (s:ByteArray):(K5 B w s).length=B.length+w+8*s.size:=by
 rw[K5,JZ,Agn,Gu]
set_option maxHeartbeats 2000000 in
theorem S5 (B:List Bool) (m w:Nat) (s:ByteArray) (hm:1<=m/\m<=255) (hmw:max 1 (Vk m)=w) (hs:s.size<=m) (hsw:s.size<2^w) (hw:w<=8) (hB:B.length<=1000):FnW Tryz.prog 229 [.c (.ptr 100 0),AI m,AD (.str s)] [(100,.box [.row 101 (BH B).length,.d (.int .i64 B.length),.d (.int .i64 0)]),(101,.row 5 1 (rowOf He (BH B)))] [100] (.tup []) [(100,.box [.row 102 (BH (K5 B w s)).length,.d (.int .i64 (K5 B w s).length),.d (.int .i64 0)]),(102,.row 5 1 (rowOf He (BH (K5 B w s))))]:=by
 have hwd:=P4 m (by omega);rw[hmw] at hwd;have hlm:=Tm m;rw[Agj (show(1:Int)<=(m:Int)/\(m:Int)<=4095 by omega)] at hlm;have hpt:=Kf B w s.size (by omega) (by omega) (by omega);have d1:decide ((m:Int)<(s.size:Int))=false:=Agk (by omega);have d2:decide (524288<(B.length:Int)+(w:Int)+8*(s.size:Int))=false:=Agk (by omega);intro r;simp only[Cg,List.map_cons,List.map_nil,List.cons_append,List.nil_append,Nat.reduceAdd];refine FnS.Bw (enters_of Tryz.func229 (by kernel_rfl) rfl) Tryz.func229 rfl Tryz.ntmps229 Tryz.results229 rfl (by first|rfl|(simp only[A0,wfL,AH,wfs,Ae,Ad];rfl)) rfl fun E=>?_
 refine AJ ?_
 repeat'(first|(refine gR ?_;first|refine Ak rfl (by first|exact tt0|omega) ?_|(refine gC ?_;first|refine Aa (hwd) (gk rfl) rfl rfl rfl (by rfl) rfl (by exact Av) rfl ?_|refine Aa (hlm) (gk rfl) rfl rfl rfl (by rfl) rfl (by exact Av) rfl ?_|refine B4 (nmL []) [] [100] (hpt) (gk rfl) rfl rfl (by(repeat'(first|exact .nil|refine .cons ?_ ?_|exact .w (.c (.ptr rfl)) rfl|exact .r (.of0 (.c .d))))<;>fail) (by(repeat'(first|exact tt0|refine⟨⟨_,rfl,?_⟩,?_⟩|exact .Bc rfl Ag|refine .box ?_|exact .nil|refine .cons ?_ ?_|exact .d|exact .row rfl rfl))<;>fail) rfl rfl rfl (by rfl) rfl (by(simp only[A0,wfL,AH,wfs,Ae,Ad];rfl)) rfl rfl rfl (by(simp only[F5,List.map_cons,List.map_nil,Blk.ren,C.ren,Bp,BU,BT,gW,D1,nmL,Nat.reduceBEq,Bool.or_false,Bool.or_true,Bool.false_or,Bool.true_or,cond_true,cond_false,Nat.reduceMul,Nat.reduceAdd])<;>rfl) (by(simp only[AV.ren,AV.HQ,List.map_cons,List.map_nil,C.ren,gW,D1,nmL,Nat.reduceBEq,Bool.or_false,Bool.or_true,Bool.false_or,Bool.true_or,cond_true,cond_false,Nat.reduceMul,Nat.reduceAdd])<;>rfl) rfl ?_)|(refine gN ?_;first|refine Aj (gk rfl) rfl rfl ?_)|(refine gV ?_;first|refine A4 (gk rfl) rfl ⟨_,rfl⟩ rfl (by exact wrap_u64 (by omega)) rfl ?_)|refine Az rfl (by assumption) ?_)|(refine gO ?_;first|refine De ?_|refine Ap (by kernel_rfl) ?_)|(refine gT ?_;first|refine B1 ?_)|refine BC ?_|refine Bg ?_|refine Cp ?_|(show VC _ (.cond _ _ _) _ _;first|refine Ah rfl ?_|refine At rfl (by assumption) ?_)|refine B0 ?_)
 refine AK (ι:=Nat) (fun k=>AS [(0,.c (.ptr 100 0)),(2,AD (.str s)),(15,AI s.size),(16,AI k)] [(9100,.pin 100 (r 100)),(100,.box [.row 101 (BH (K4 (B++CQ w s.size) s k)).length,.d (.int .i64 (K4 (B++CQ w s.size) s k).length),.d (.int .i64 0)]),(101,.row 5 1 (rowOf He (BH (K4 (B++CQ w s.size) s k))))]) (fun k=>k<=s.size) (fun k=>s.size-k) 0 (Ag1 _) ?_ ?_
 ·refine Am (fun n=>if n=101 then 13102 else n) ?_ ?_ rfl (by(simp only[wfL,wfs,Ae,Ad];rfl))
  all_goals repeat'(first|exact tt0|refine⟨⟨_,rfl,?_⟩,?_⟩|exact .c .d|exact .c (.ptr rfl)|exact .pin rfl|exact .Bc rfl Ag|refine .box ?_|exact .nil|refine .cons ?_ ?_|exact .d|exact .row rfl rfl|fail)
 ·intro k hk;have htl:=JZ (B++CQ w s.size) s k;rw[Agn,Gu] at htl;rcases Ag2 k s.size with hlt|hge
  ·have dlt:decide ((k:Int)<(s.size:Int))=true:=Agj (by omega);have hb:=Wq s k;have hb':0<=bAt s k/\bAt s k<256:=HB s k;have hk8:=Kf (K4 (B++CQ w s.size) s k) 8 (Pd s k) (by decide) (by omega) (by omega);rw[<-Wr] at hk8
   repeat'(first|(refine gR ?_;first|refine Ak rfl (by first|exact tt0|omega) ?_|(refine gC ?_;first|refine B4 (nmL []) [] [100] (hk8) (gk rfl) rfl rfl (by(repeat'(first|exact .nil|refine .cons ?_ ?_|exact .w (.c (.ptr rfl)) rfl|exact .r (.of0 (.c .d))))<;>fail) (by(repeat'(first|exact tt0|refine⟨⟨_,rfl,?_⟩,?_⟩|exact .Bc rfl Ag|refine .box ?_|exact .nil|refine .cons ?_ ?_|exact .d|exact .row rfl rfl))<;>fail) rfl rfl rfl (by rfl) rfl (by(simp only[A0,wfL,AH,wfs,Ae,Ad];rfl)) rfl rfl rfl (by(simp only[F5,List.map_cons,List.map_nil,Blk.ren,C.ren,Bp,BU,BT,gW,D1,nmL,Nat.reduceBEq,Bool.or_false,Bool.or_true,Bool.false_or,Bool.true_or,cond_true,cond_false,Nat.reduceMul,Nat.reduceAdd])<;>rfl) (by(simp only[AV.ren,AV.HQ,List.map_cons,List.map_nil,C.ren,gW,D1,nmL,Nat.reduceBEq,Bool.or_false,Bool.or_true,Bool.false_or,Bool.true_or,cond_true,cond_false,Nat.reduceMul,Nat.reduceAdd])<;>rfl) rfl ?_)|(refine gX ?_;first|refine Dn (gk rfl) rfl rfl rfl (by omega) (by omega) (by exact(Int.toNat_natCast _).symm) rfl ?_)|(refine gV ?_;first|refine A4 (gk rfl) rfl ⟨_,rfl⟩ rfl (by exact wrap_u64 (by omega)) rfl ?_))|(refine gO ?_;first|refine De ?_)|(refine gT ?_;first|refine B1 ?_)|(refine gK ?_;first|refine Gj ?_)|refine BC ?_|refine Bg ?_|(show VC _ (.cond _ _ _) _ _;first|refine Ai rfl ?_|refine At rfl (by assumption) ?_)|refine B0 ?_|refine EE ?_)
   refine⟨k+1,by omega,by omega,?_⟩;rw[show K4 (B++CQ w s.size) s (k+1)=K4 (B++CQ w s.size) s k++CQ 8 (Pd s k) from rfl];refine Am (fun n=>if n=101 then 24102 else n) ?_ ?_ rfl (by(simp only[wfL,wfs,Ae,Ad];rfl))
   all_goals repeat'(first|exact tt0|refine⟨⟨_,rfl,?_⟩,?_⟩|exact .c .d|exact .c (.ptr rfl)|exact .pin rfl|exact .Bc rfl Ag|refine .box ?_|exact .nil|refine .cons ?_ ?_|exact .d|exact .row rfl rfl|fail)
  ·have dlt:decide ((k:Int)<(s.size:Int))=false:=Agk (by omega);have hk':k=s.size:=by omega
   subst hk'
   repeat'(first|refine sB ?_|refine Ak rfl (by exact tt0) ?_|(refine gD ?_;first|refine Ah rfl ?_|refine At rfl (by assumption) ?_)|fail)
   refine Ao (Am (l:=[]) (b:=[(9100,.pin 100 (r 100)),(100,.box [.row 102 (BH (K5 B w s)).length,.d (.int .i64 (K5 B w s).length),.d (.int .i64 0)]),(102,.row 5 1 (rowOf He (BH (K5 B w s))))]) (fun n=>if n=102 then 101 else n) ?_ ?_ rfl (by(simp only[wfL,wfs,Ae,Ad];rfl))) (DG BQ .nil rfl (by repeat'(first|exact tt0|refine⟨rfl,?_⟩)))
   all_goals repeat'(first|exact tt0|refine⟨⟨_,rfl,?_⟩,?_⟩|exact .pin rfl|exact .Bc rfl Ag|refine .box ?_|exact .nil|refine .cons ?_ ?_|exact .d|exact .row rfl rfl|fail)
theorem P7 (B:List Bool) (hB:B.length<=4000):FnW Tryz.prog 231 [.c (.ptr 100 0)] [(100,.box [.row 101 (BH B).length,.d (.int .i64 B.length),.d (.int .i64 0)]),(101,.row 5 1 (rowOf He (BH B)))] [100,101] (.tup [AD (.str (mkS (BH B))),AI 0]) [(100,.box [.row 101 (BH B).length,.d (.int .i64 B.length),.d (.int .i64 0)]),(101,.row 5 1 (rowOf He (BH B)))]:=by
 intro r;simp only[Cg,List.map_cons,List.map_nil,List.cons_append,List.nil_append,Nat.reduceAdd];refine FnS.Bw (enters_of Tryz.func231 (by kernel_rfl) rfl) Tryz.func231 rfl Tryz.ntmps231 Tryz.results231 rfl (by first|rfl|(simp only[A0,wfL,AH,wfs,Ae,Ad];rfl)) rfl fun E=>?_
 refine AJ ?_
 repeat'(first|refine sB ?_|(refine gV ?_;first|refine Lo (gk rfl) rfl rfl (by rfl) rfl rfl rfl rfl ?_)|refine Ak rfl (by exact tt0) ?_|(refine gN ?_;first|refine Aj (gk rfl) rfl rfl ?_)|(refine gD ?_;first|refine Ah rfl ?_)|fail)
 refine Ao (Am (l:=[(2,AD (.str (mkS (BH B)))),(3,AI 0)]) (b:=[(9100,.pin 100 (r 100)),(9101,.pin 101 (r 101)),(100,.box [.row 101 (BH B).length,.d (.int .i64 B.length),.d (.int .i64 0)]),(101,.row 5 1 (rowOf He (BH B)))]) (fun n=>n) ?_ ?_ rfl (by(simp only[wfL,wfs,Ae,Ad];rfl))) (DG Ab (.tmp rfl rfl (.tmp rfl rfl .nil)) rfl (by repeat'(first|exact tt0|refine⟨rfl,?_⟩)))
 all_goals repeat'(first|exact tt0|refine⟨⟨_,rfl,?_⟩,?_⟩|exact .c .d|exact .pin rfl|exact .Bc rfl Ag|refine .box ?_|exact .nil|refine .cons ?_ ?_|exact .d|exact .row rfl rfl|fail)
def bcn (src slot rank epoch:Nat) (d:ByteArray):Fr:=⟨3,src,-1,0,0,0,0,0,slot,rank,epoch,d⟩
abbrev Aga:AV:=.agg [.d (.int .i64 0),.d (.int .i64 0),.d (.int .i64 0),.d .Db]
abbrev Ad6 (b:Bool):AV:=.agg [.d (.int .i64 0),.d (.bool b),.d (.str ⟨#[]⟩),.d (.int .i64 0),.d (.int .i64 0),.d (.int .i64 0),.d .Db]
theorem Ki:FnS Tryz.prog 230 [Aga] [] (AB true) []:=by
 refine fb Tryz.func230 (by kernel_rfl) rfl Tryz.ntmps230 Tryz.results230 rfl rfl rfl rfl fun E hS=>?_
 repeat'(first|refine sB ?_|refine Ak rfl (by exact tt0) ?_|fail)
 exact Aw Ab rfl rfl
theorem U7 (b:Bool):FnS Tryz.prog 225 [Ad6 b] [] (AI 0) []:=by
 refine fb Tryz.func225 (by kernel_rfl) rfl Tryz.ntmps225 Tryz.results225 rfl rfl rfl rfl fun E hS=>?_
 repeat'(first|refine sC ?_|refine Ak rfl (by exact tt0) ?_|(refine gC ?_;first|refine Aa (Ki) (gk rfl) rfl rfl rfl (by rfl) rfl (by exact Av) rfl ?_)|(refine gD ?_;first|refine Ah rfl ?_)|fail)
 exact AG Ab rfl rfl
def Ad7 (b:Bool):List Bool:=K5 (CQ 5 0++[b]) 4 ⟨#[]⟩++[false]
def Aas (b:Bool):ByteArray:=mkS (BH (Ad7 b))
theorem XB (b:Bool):(Ad7 b).length=11:=by
 rw[Ad7,Agn,NK,Agn,Gu];rfl
set_option maxHeartbeats 2000000 in
theorem U6 (b:Bool):FnS Tryz.prog 167 [Ad6 b] [] (.tup [AD (.str (Aas b)),AI 0]) []:=by
 have l1:=Gu 5 0;have u1:=K7 [] 5 0 (by decide) (by decide) (by decide);have u2:=LC (CQ 5 0) b (by omega);have u3:=S5 (CQ 5 0++[b]) 8 4 ⟨#[]⟩ (by decide) (by rw[AeO];rfl) (by decide) (by decide) (by decide) (by rw[Agn];simp[l1]);have u4:=LC (K5 (CQ 5 0++[b]) 4 ⟨#[]⟩) false (by rw[NK,Agn,l1,show(⟨#[]⟩:ByteArray).size=0 from rfl];simp);have u5:=P7 (Ad7 b) (by rw[XB];decide);rw[List.nil_append] at u1;refine fb Tryz.func167 (by kernel_rfl) rfl Tryz.ntmps167 Tryz.results167 rfl rfl rfl rfl fun E hS=>?_
 repeat'(first|refine sR ?_|refine Ak rfl (by exact tt0) ?_|(refine gC ?_;first|refine Aa (U7 b) (gk rfl) rfl rfl rfl (by rfl) rfl (by exact Av) rfl ?_|refine Aa (S7) (gk rfl) rfl rfl rfl (by rfl) rfl (by((simp only[Ex,List.map_cons,List.map_nil,Blk.shift,Cr])<;>rfl)) rfl ?_)|refine sq 5 rfl ?_|(refine gD ?_;first|refine Ah rfl ?_)|fail)
 refine VC.le (σ':=AS [(1,.c (.ptr 1 0)),(5,.c (.ptr 100 0))] [(1,.box [.d (.int .i64 0),.d (.bool b),.d (.str ⟨#[]⟩),.d (.int .i64 0),.d (.int .i64 0),.d (.int .i64 0),.d .Db]),(100,.box [.row 101 0,.d (.int .i64 0),.d (.int .i64 0)]),(101,.row 5 1 (rowOf He []))]) ?_ ?_
 ·refine Am (fun n=>if n=100 then 13100 else if n=101 then 13101 else n) ?_ ?_ rfl (by rfl)
  all_goals repeat'(first|exact tt0|refine⟨⟨_,rfl,?_⟩,?_⟩|exact .c (.ptr rfl)|exact .Bs rfl rfl|exact .Bc rfl Ag|refine .box ?_|exact .nil|refine .cons ?_ ?_|exact .d|exact .row rfl rfl|fail)
 repeat'(first|(refine gR ?_;first|refine Ak rfl (by exact tt0) ?_|(refine gC ?_;first|refine B4 (nmL []) [] [100] (u1) (gk rfl) rfl rfl (by(repeat'(first|exact .nil|refine .cons ?_ ?_|exact .w (.c (.ptr rfl)) rfl|exact .r (.of0 (.c .d))))<;>fail) (by(repeat'(first|exact tt0|refine⟨⟨_,rfl,?_⟩,?_⟩|exact .Bc rfl Ag|refine .box ?_|exact .nil|refine .cons ?_ ?_|exact .d|exact .row rfl rfl))<;>fail) rfl rfl rfl (by rfl) rfl (by rfl) rfl rfl rfl (by(simp only[F5,List.map_cons,List.map_nil,Blk.ren,C.ren,Bp,BU,BT,gW,D1,nmL,Nat.reduceBEq,Bool.or_false,Bool.or_true,Bool.false_or,Bool.true_or,cond_true,cond_false,Nat.reduceMul,Nat.reduceAdd])<;>rfl) (by(simp only[AV.ren,AV.HQ,List.map_cons,List.map_nil,C.ren,gW,D1,nmL,Nat.reduceBEq,Bool.or_false,Bool.or_true,Bool.false_or,Bool.true_or,cond_true,cond_false,Nat.reduceMul,Nat.reduceAdd])<;>rfl) rfl ?_))|(refine gO ?_;first|refine De ?_)|(refine gT ?_;first|refine B1 ?_)|(show VC _ (.seq _ _) _ _;(fail_if_success (show VC _ (.seq (.seq (.region 6 _ _) _) _) _ _));(fail_if_success (show VC _ (.seq (.region 6 _ _) _) _ _));refine BC ?_)|refine Bg ?_)
 repeat'(first|(refine gR ?_;first|refine Ak rfl (by exact tt0) ?_|(refine gC ?_;first|refine B4 (nmL [(101,17102)]) [] [100] (u2) (gk rfl) rfl rfl (by(repeat'(first|exact .nil|refine .cons ?_ ?_|exact .w (.c (.ptr rfl)) rfl|exact .r (.of0 (.c .d))))<;>fail) (by(repeat'(first|exact tt0|refine⟨⟨_,rfl,?_⟩,?_⟩|exact .Bc rfl Ag|refine .box ?_|exact .nil|refine .cons ?_ ?_|exact .d|exact .row rfl rfl))<;>fail) rfl rfl rfl (by rfl) rfl (by(simp only[A0,wfL,AH,wfs,Ae,Ad];rfl)) rfl rfl rfl (by(simp only[F5,List.map_cons,List.map_nil,Blk.ren,C.ren,Bp,BU,BT,gW,D1,nmL,Nat.reduceBEq,Bool.or_false,Bool.or_true,Bool.false_or,Bool.true_or,cond_true,cond_false,Nat.reduceMul,Nat.reduceAdd])<;>rfl) (by(simp only[AV.ren,AV.HQ,List.map_cons,List.map_nil,C.ren,gW,D1,nmL,Nat.reduceBEq,Bool.or_false,Bool.or_true,Bool.false_or,Bool.true_or,cond_true,cond_false,Nat.reduceMul,Nat.reduceAdd])<;>rfl) rfl ?_))|(refine gO ?_;first|refine De ?_)|(refine gT ?_;first|refine B1 ?_)|(show VC _ (.seq _ _) _ _;(fail_if_success (show VC _ (.seq (.seq (.region 7 _ _) _) _) _ _));(fail_if_success (show VC _ (.seq (.region 7 _ _) _) _ _));refine BC ?_)|refine Bg ?_)
 repeat'(first|(refine gR ?_;first|refine Ak rfl (by exact tt0) ?_|(refine gC ?_;first|refine B4 (nmL [(101,21102)]) [] [100] (u3) (gk rfl) rfl rfl (by(repeat'(first|exact .nil|refine .cons ?_ ?_|exact .w (.c (.ptr rfl)) rfl|exact .r (.of0 (.c .d))))<;>fail) (by(repeat'(first|exact tt0|refine⟨⟨_,rfl,?_⟩,?_⟩|exact .Bc rfl Ag|refine .box ?_|exact .nil|refine .cons ?_ ?_|exact .d|exact .row rfl rfl))<;>fail) rfl rfl rfl (by rfl) rfl (by(simp only[A0,wfL,AH,wfs,Ae,Ad];rfl)) rfl rfl rfl (by(simp only[F5,List.map_cons,List.map_nil,Blk.ren,C.ren,Bp,BU,BT,gW,D1,nmL,Nat.reduceBEq,Bool.or_false,Bool.or_true,Bool.false_or,Bool.true_or,cond_true,cond_false,Nat.reduceMul,Nat.reduceAdd])<;>rfl) (by(simp only[AV.ren,AV.HQ,List.map_cons,List.map_nil,C.ren,gW,D1,nmL,Nat.reduceBEq,Bool.or_false,Bool.or_true,Bool.false_or,Bool.true_or,cond_true,cond_false,Nat.reduceMul,Nat.reduceAdd])<;>rfl) rfl ?_))|(refine gO ?_;first|refine De ?_)|(refine gT ?_;first|refine B1 ?_)|(show VC _ (.seq _ _) _ _;(fail_if_success (show VC _ (.seq (.seq (.region 8 _ _) _) _) _ _));(fail_if_success (show VC _ (.seq (.region 8 _ _) _) _ _));refine BC ?_)|refine Bg ?_)
 repeat'(first|(refine gR ?_;first|refine Ak rfl (by exact tt0) ?_|(refine gC ?_;first|refine Aa (Ki) (gk rfl) rfl rfl rfl (by rfl) rfl (by exact Av) rfl ?_|refine B4 (nmL [(101,25102)]) [] [100] (u4) (gk rfl) rfl rfl (by(repeat'(first|exact .nil|refine .cons ?_ ?_|exact .w (.c (.ptr rfl)) rfl|exact .r (.of0 (.c .d))))<;>fail) (by(repeat'(first|exact tt0|refine⟨⟨_,rfl,?_⟩,?_⟩|exact .Bc rfl Ag|refine .box ?_|exact .nil|refine .cons ?_ ?_|exact .d|exact .row rfl rfl))<;>fail) rfl rfl rfl (by rfl) rfl (by(simp only[A0,wfL,AH,wfs,Ae,Ad];rfl)) rfl rfl rfl (by(simp only[F5,List.map_cons,List.map_nil,Blk.ren,C.ren,Bp,BU,BT,gW,D1,nmL,Nat.reduceBEq,Bool.or_false,Bool.or_true,Bool.false_or,Bool.true_or,cond_true,cond_false,Nat.reduceMul,Nat.reduceAdd])<;>rfl) (by(simp only[AV.ren,AV.HQ,List.map_cons,List.map_nil,C.ren,gW,D1,nmL,Nat.reduceBEq,Bool.or_false,Bool.or_true,Bool.false_or,Bool.true_or,cond_true,cond_false,Nat.reduceMul,Nat.reduceAdd])<;>rfl) rfl ?_))|(refine gO ?_;first|refine De ?_)|(refine gT ?_;first|refine B1 ?_)|(show VC _ (.seq _ _) _ _;(fail_if_success (show VC _ (.seq (.seq (.region 9 _ _) _) _) _ _));(fail_if_success (show VC _ (.seq (.region 9 _ _) _) _ _));refine BC ?_)|refine Bg ?_)
 repeat'(first|(refine gR ?_;first|refine Ak rfl (by exact tt0) ?_|(refine gC ?_;first|refine Aa (Ki) (gk rfl) rfl rfl rfl (by rfl) rfl (by exact Av) rfl ?_|refine B4 (nmL [(101,31102)]) [] [100,101] (u5) (gk rfl) rfl rfl (by(repeat'(first|exact .nil|refine .cons ?_ ?_|exact .w (.c (.ptr rfl)) rfl))<;>fail) (by(repeat'(first|exact tt0|refine⟨⟨_,rfl,?_⟩,?_⟩|exact .Bc rfl Ag|refine .box ?_|exact .nil|refine .cons ?_ ?_|exact .d|exact .row rfl rfl))<;>fail) rfl rfl rfl (by rfl) rfl (by(simp only[A0,wfL,AH,wfs,Ae,Ad];rfl)) rfl rfl rfl (by(simp only[F5,List.map_cons,List.map_nil,Blk.ren,C.ren,Bp,BU,BT,gW,D1,nmL,Nat.reduceBEq,Bool.or_false,Bool.or_true,Bool.false_or,Bool.true_or,cond_true,cond_false,Nat.reduceMul,Nat.reduceAdd])<;>rfl) (by(simp only[AV.ren,AV.HQ,List.map_cons,List.map_nil,C.ren,gW,D1,nmL,Nat.reduceBEq,Bool.or_false,Bool.or_true,Bool.false_or,Bool.true_or,cond_true,cond_false,Nat.reduceMul,Nat.reduceAdd])<;>rfl) rfl ?_))|(refine gO ?_;first|refine De ?_)|(refine gT ?_;first|refine B1 ?_)|refine BC ?_|refine Bg ?_|(show VC _ (.cond _ _ _) _ _;first|refine Ah rfl ?_)|refine IZ ?_|refine EE ?_)
 exact CA Ab rfl rfl rfl rfl
def AfI (s:Sta) (slot:Int) (c:TC):List D:=[.int .i64 s.tb.node,.int .i64 s.tb.len,tcs s.tb.cells,.int .i64 s.qu.Bk,pks s.qu.Af,hds s.held,sns s.seen,
 .int .i64 s.list,.int .i64 s.seq,.int .i64 s.Bl,.int .i64 s.tries,.int .i64 s.back,.int .i64 s.wait,.int .i64 s.CY,.int .i64 slot,
 .int .i64 c.slot,.int .i64 c.offset,.int .i64 c.kind,.bool c.send,.int .i64 c.peer,.int .i64 c.Cb]
abbrev wG (s:Sta) (slot:Int) (c:TC):Nat->D:=fun j=>(AfI s slot c).getD j .Db
abbrev wP (s:Sta) (slot:Int) (c:TC):AV:=AD (.pt 21 (wG s slot c))
def wcs (s:Sta) (H S:C) (slot:Int) (c:TC):List C:=[.d (.int .i64 s.tb.node),.d (.int .i64 s.tb.len),.d (tcs s.tb.cells),.d (.int .i64 s.qu.Bk),.d (pks s.qu.Af),H,S,
 .d (.int .i64 s.list),.d (.int .i64 s.seq),.d (.int .i64 s.Bl),.d (.int .i64 s.tries),.d (.int .i64 s.back),.d (.int .i64 s.wait),.d (.int .i64 s.CY),.d (.int .i64 slot),
 .d (.int .i64 c.slot),.d (.int .i64 c.offset),.d (.int .i64 c.kind),.d (.bool c.send),.d (.int .i64 c.peer),.d (.int .i64 c.Cb)]
theorem KY {σ:St} {L:List Nat} {nm:Nat} {s:Sta} {H S:C} {slot:Int} {c:TC} (hL:nm∈L) (hb:σ (.b nm)=some (.k (.box (wcs s H S slot c)))) (hH:CR σ L H (.d (hds s.held))) (hS:CR σ L S (.d (sns s.seen))):
  AR Tryz.prog σ L (.c (.ptr nm 0)) (wP s slot c):=by
 refine .of0 (.c (.Ad1 hL hb (cf:=fun j=>(wcs s H S slot c).getD j (.d .Db)) (fun j hj=>?_) (fun j hj=>?_)))
 ·have:j=0\/j=1\/j=2\/j=3\/j=4\/j=5\/j=6\/j=7\/j=8\/j=9\/j=10\/j=11\/j=12\/j=13\/j=14\/j=15\/j=16\/j=17\/j=18\/j=19\/j=20:=by omega
  rcases this with rfl|rfl|rfl|rfl|rfl|rfl|rfl|rfl|rfl|rfl|rfl|rfl|rfl|rfl|rfl|rfl|rfl|rfl|rfl|rfl|rfl<;>rfl
 ·have:j=0\/j=1\/j=2\/j=3\/j=4\/j=5\/j=6\/j=7\/j=8\/j=9\/j=10\/j=11\/j=12\/j=13\/j=14\/j=15\/j=16\/j=17\/j=18\/j=19\/j=20:=by omega
  rcases this with rfl|rfl|rfl|rfl|rfl|rfl|rfl|rfl|rfl|rfl|rfl|rfl|rfl|rfl|rfl|rfl|rfl|rfl|rfl|rfl|rfl<;>first|exact .d|exact hH|exact hS
abbrev E6 (p:Hd->Bool):List DV->DV->Prop:=fun ds r=>∃x:Hd,ds=[.agg x.enc]/\r=.d (.bool (p x))
theorem Vx (l:List Hd) (p:Hd->Bool):FnS Tryz.prog 217 [AD (hds l),.clo (E6 p)] [] (AI (oI (Fs l p))) []:=by
 refine fb Tryz.func217 (by kernel_rfl) rfl Tryz.ntmps217 Tryz.results217 rfl rfl rfl rfl fun E hS=>?_
 refine B9 (t:=0) rfl fun hb=>?_
 repeat'(first|refine sC ?_|refine Ak rfl (by exact tt0) ?_|fail)
 refine AK (ι:=Nat) (fun k=>AS [(0,AD (hds l)),(1,.clo (E6 p)),(7,AI l.length),(8,AI k)] []) (fun k=>k<=l.length/\∀i,i<k->p (l.getD i default)=false) (fun k=>l.length-k) 0 ⟨Ag1 _,fun i hi=>absurd hi (AgW _)⟩ ?_ ?_
 ·exact Ck ⟨rfl,rfl,rfl,rfl,trivial⟩ trivial rfl
 ·intro k hk
  repeat'(first|refine sC ?_|refine Ak rfl (by first|exact tt0|omega) ?_|(refine gC ?_;first|refine E2 (⟨_,rfl,rfl⟩) (gk rfl) rfl rfl rfl rfl ?_)|(refine gI ?_;first|refine Au (gk rfl) rfl rfl rfl rfl rfl (by omega) rfl ?_)|(refine gD ?_;first|(refine Ay rfl ?_ ?_<;>intro h<;>have hq:=h<;>(try simp only[hqs] at hq)))|fail)
  ·refine AG Ab rfl ?_;rw[Ey hk.2 (by omega) h];rfl
  ·refine⟨k+1,⟨by omega,fun i hi=>?_⟩,by omega,Ck ⟨rfl,rfl,rfl,rfl,trivial⟩ trivial rfl⟩;by_cases hik:i<k
   ·exact hk.2 i hik
   ·have:i=k:=by omega
    subst this;exact h
  ·refine AG Ab rfl ?_;have:k=l.length:=by omega
   subst this;rw[DR hk.2];rfl
theorem Qp (x:Hd) (t:Int):FnS Tryz.prog 237 [hdA x,.ep (fun _=>.int .i64 t) 1] [] (AB (decide (x.Cb=t))) []:=by
 refine fb Tryz.func237 (by kernel_rfl) rfl Tryz.ntmps237 Tryz.results237 rfl rfl rfl rfl fun E hS=>?_
 repeat'(first|refine sB ?_|refine Ak rfl (by exact tt0) ?_|fail)
 all_goals exact Aw Ab rfl rfl
theorem Tt {σ:St} {t:Int} {n1:Nat} {L:List Nat} (hL:n1∈L) (h1:σ (.b n1)=some (.k (.box [.d (.int .i64 t)]))):AR Tryz.prog σ L (.fnc 237 [.ptr n1 0]) (.clo (E6 fun x=>decide (x.Cb=t))):=
 .fnc (eps:=[.ep (fun _=>.int .i64 t) 1]) (.cons (.ptr hL h1 (fun j hj=>by
  have:j=0:=by omega
  subst this;rfl)) .nil) (enters_of Tryz.func237 (by kernel_rfl) rfl)
  (by rintro _ _ ⟨x,rfl,rfl⟩;exact⟨rfl,Qp x t⟩)
theorem IP (s:Sta) (slot:Int) (c:TC) (Cb:Int):FnS Tryz.prog 175 [wP s slot c,AI Cb] [] (AI (oI (OH s.held Cb))) []:=by
 refine fb Tryz.func175 (by kernel_rfl) rfl Tryz.ntmps175 Tryz.results175 rfl rfl rfl rfl fun E hS=>?_
 repeat'(first|refine sB ?_|(refine gN ?_;first|refine A7 (gk rfl) rfl rfl ?_)|(show VR _ _ _ (⟨_,.fieldAddr _ _ _,_,_,_,_⟩ :: _) _ _ _;first|refine A1 (gk rfl) rfl rfl rfl rfl rfl ?_)|refine Ak rfl (by exact tt0) ?_|(refine gC ?_;first|refine AF [3] (Vx s.held (fun x=>decide (x.Cb=Cb))) (gk rfl) rfl (by(repeat'(first|exact .nil|refine .cons ?_ ?_|exact .of0 (.c .d)|exact(Tt (by simp) rfl)))<;>fail) (by rfl) rfl (by rfl) rfl (by rfl) rfl ?_)|fail)
 all_goals exact AG Ab rfl rfl
abbrev Jy (p:TC->Bool):List DV->DV->Prop:=fun ds r=>∃x:TC,ds=[.agg x.enc]/\r=.d (.bool (p x))
theorem AaJ (l:List TC) (p:TC->Bool):FnS Tryz.prog 291 [AD (tcs l),.clo (Jy p)] [] (AI (oI (Fs l p))) []:=by
 refine fb Tryz.func291 (by kernel_rfl) rfl Tryz.ntmps291 Tryz.results291 rfl rfl rfl rfl fun E hS=>?_
 refine B9 (t:=0) rfl fun hb=>?_
 repeat'(first|refine sC ?_|refine Ak rfl (by exact tt0) ?_|fail)
 refine AK (ι:=Nat) (fun k=>AS [(0,AD (tcs l)),(1,.clo (Jy p)),(7,AI l.length),(8,AI k)] []) (fun k=>k<=l.length/\∀i,i<k->p (l.getD i default)=false) (fun k=>l.length-k) 0 ⟨Ag1 _,fun i hi=>absurd hi (AgW _)⟩ ?_ ?_
 ·exact Ck ⟨rfl,rfl,rfl,rfl,trivial⟩ trivial rfl
 ·intro k hk
  repeat'(first|refine sC ?_|refine Ak rfl (by first|exact tt0|omega) ?_|(refine gC ?_;first|refine E2 (⟨_,rfl,rfl⟩) (gk rfl) rfl rfl rfl rfl ?_)|(refine gI ?_;first|refine Au (gk rfl) rfl rfl rfl rfl rfl (by omega) rfl ?_)|(refine gD ?_;first|(refine Ay rfl ?_ ?_<;>intro h<;>have hq:=h<;>(try simp only[hqs] at hq)))|fail)
  ·refine AG Ab rfl ?_;rw[Ey hk.2 (by omega) h];rfl
  ·refine⟨k+1,⟨by omega,fun i hi=>?_⟩,by omega,Ck ⟨rfl,rfl,rfl,rfl,trivial⟩ trivial rfl⟩;by_cases hik:i<k
   ·exact hk.2 i hik
   ·have:i=k:=by omega
    subst this;exact h
  ·refine AG Ab rfl ?_;have:k=l.length:=by omega
   subst this;rw[DR hk.2];rfl
theorem O1 (l:List TC) (p:TC->Bool):FnS Tryz.prog 243 [AD (tcs l),.clo (Jy p)] [] (AB (l.any p)) []:=by
 refine fb Tryz.func243 (by kernel_rfl) rfl Tryz.ntmps243 Tryz.results243 rfl rfl rfl rfl fun E hS=>?_
 repeat'(first|refine sB ?_|refine Ak rfl (by exact tt0) ?_|(refine gC ?_;first|refine AF [] (AaJ l p) (gk rfl) rfl (by(repeat'(first|exact .nil|refine .cons ?_ ?_|exact .of0 (.c .d)|exact .clo))<;>fail) (by rfl) rfl (by rfl) rfl (by rfl) rfl ?_)|fail)
 all_goals exact Aw Ab rfl (E9 _ _).symm
theorem QQ (c:TC) (p:Pk):FnS Tryz.prog 244 [tcA c,.ep (fun j=>p.enc.getD j .Db) 6] [] (AB (decide (c.kind=2)&&c.send&&decide (c.peer=p.to))) []:=by
 refine fb Tryz.func244 (by kernel_rfl) rfl Tryz.ntmps244 Tryz.results244 rfl rfl rfl rfl fun E hS=>?_
 repeat'(first|refine sB ?_|refine Ak rfl (by exact tt0) ?_|(refine Ax rfl ?_ ?_<;>intro h<;>have hq:=h<;>(try simp only[hqs] at hq))|fail)
 all_goals(refine Aw Ab rfl ?_;simp_all)
theorem TV {σ:St} {p:Pk} {n1:Nat} {L:List Nat} (hL:n1∈L) (h1:σ (.b n1)=some (.k (.box p.cs))):AR Tryz.prog σ L (.fnc 244 [.ptr n1 0]) (.clo (Jy fun c=>decide (c.kind=2)&&c.send&&decide (c.peer=p.to))):=
 .fnc (eps:=[.ep (fun j=>p.enc.getD j .Db) 6]) (.cons (.ptr hL h1 (fun j hj=>by
  have:j=0\/j=1\/j=2\/j=3\/j=4\/j=5:=by omega
  rcases this with rfl|rfl|rfl|rfl|rfl|rfl<;>rfl)) .nil) (enters_of Tryz.func244 (by kernel_rfl) rfl)
  (by rintro _ _ ⟨x,rfl,rfl⟩;exact⟨rfl,QQ x p⟩)
theorem TU (p:Pk) (s:Sta) (slot:Int) (c:TC):FnS Tryz.prog 242 [pkA p,.ep (fun _=>.pt 21 (wG s slot c)) 1] [] (AB (decide (p.to=-1)||!Yt s.tb p.to)) []:=by
 refine fb Tryz.func242 (by kernel_rfl) rfl Tryz.ntmps242 Tryz.results242 rfl rfl rfl rfl fun E hS=>?_
 repeat'(first|refine sB ?_|(refine gN ?_;first|refine A7 (gk rfl) rfl rfl ?_)|(show VR _ _ _ (⟨_,.fieldAddr _ _ _,_,_,_,_⟩ :: _) _ _ _;first|refine A1 (gk rfl) rfl rfl rfl rfl rfl ?_)|refine Ak rfl (by exact tt0) ?_|(refine gC ?_;first|refine AF [2] (O1 s.tb.cells (fun c=>decide (c.kind=2)&&c.send&&decide (c.peer=p.to))) (gk rfl) rfl (by(repeat'(first|exact .nil|refine .cons ?_ ?_|exact .of0 (.c .d)|exact(TV (by simp) rfl)))<;>fail) (by rfl) rfl (by rfl) rfl (by rfl) rfl ?_)|(refine Ax rfl ?_ ?_<;>intro h<;>have hq:=h<;>(try simp only[hqs] at hq))|fail)
 all_goals(refine Aw Ab rfl ?_;unfold Yt;simp_all)
theorem O9 {σ:St} {s:Sta} {slot:Int} {c:TC} {n1:Nat} {L:List Nat} (hL:n1∈L) (h1:σ (.b n1)=some (.k (.box [.d (.pt 21 (wG s slot c))]))):AR Tryz.prog σ L (.fnc 242 [.ptr n1 0]) (.clo (B2 fun p=>decide (p.to=-1)||!Yt s.tb p.to)):=
 .fnc (eps:=[.ep (fun _=>.pt 21 (wG s slot c)) 1]) (.cons (.ptr hL h1 (fun j hj=>by
  have:j=0:=by omega
  subst this;rfl)) .nil) (enters_of Tryz.func242 (by kernel_rfl) rfl)
  (by rintro _ _ ⟨x,rfl,rfl⟩;exact⟨rfl,TU x s slot c⟩)
theorem Cc (s:Sta) (slot:Int) (c:TC):FnS Tryz.prog 178 [wP s slot c] [] (.tup [pkA (Abz s (G3 s)),AB (G3 s).isSome]) []:=by
 have hix:=Hv s.qu.Af fun p=>decide (p.to=-1)||!Yt s.tb p.to
 refine fb Tryz.func178 (by kernel_rfl) rfl Tryz.ntmps178 Tryz.results178 rfl rfl rfl rfl fun E hS=>?_
 cases hf:G3 s with
 |none=>
  have hf':Fs s.qu.Af (fun p=>decide (p.to=-1)||!Yt s.tb p.to)=none:=hf;rw[hf'] at hix;have hix':FnS Tryz.prog 210 [AD (pks s.qu.Af),.clo (B2 fun p=>decide (p.to=-1)||!Yt s.tb p.to)] [] (AI (-1)) []:=hix
  repeat'(first|refine sB ?_|(refine gN ?_;first|refine A7 (gk rfl) rfl rfl ?_)|(show VR _ _ _ (⟨_,.fieldAddr _ _ _,_,_,_,_⟩ :: _) _ _ _;first|refine A1 (gk rfl) rfl rfl rfl rfl rfl ?_)|refine Ak rfl (by exact tt0) ?_|(refine gC ?_;first|refine AF [1] (hix') (gk rfl) rfl (by(repeat'(first|exact .nil|refine .cons ?_ ?_|exact .of0 (.c .d)|exact(O9 (by simp) rfl)))<;>fail) (by rfl) rfl (by rfl) rfl (by rfl) rfl ?_)|(refine gD ?_;first|refine Ai rfl ?_)|fail)
  all_goals exact AL Ab rfl rfl rfl rfl rfl rfl rfl
 |some i=>
  have hf':Fs s.qu.Af (fun p=>decide (p.to=-1)||!Yt s.tb p.to)=some i:=hf;rw[hf'] at hix;have hix':FnS Tryz.prog 210 [AD (pks s.qu.Af),.clo (B2 fun p=>decide (p.to=-1)||!Yt s.tb p.to)] [] (AI (i:Nat)) []:=hix;obtain⟨hi,_,_⟩:=BJ hf'
  repeat'(first|refine sB ?_|(refine gN ?_;first|refine A7 (gk rfl) rfl rfl ?_)|(show VR _ _ _ (⟨_,.fieldAddr _ _ _,_,_,_,_⟩ :: _) _ _ _;first|refine A1 (gk rfl) rfl rfl rfl rfl rfl ?_)|refine Ak rfl (by exact tt0) ?_|(refine gC ?_;first|refine AF [1] (hix') (gk rfl) rfl (by(repeat'(first|exact .nil|refine .cons ?_ ?_|exact .of0 (.c .d)|exact(O9 (by simp) rfl)))<;>fail) (by rfl) rfl (by rfl) rfl (by rfl) rfl ?_)|(refine gI ?_;first|refine Au (gk rfl) rfl rfl rfl rfl rfl (by omega) rfl ?_)|(refine gD ?_;first|refine Ah rfl ?_)|fail)
  all_goals first
   |(exfalso;omega)
   |exact AL Ab rfl rfl rfl rfl rfl rfl rfl
theorem I8 (s:Sta) (slot:Int) (c:TC) (p:Pk):FnS Tryz.prog 285 [wP s slot c,pkA p] [] (acA (Adb s p)) []:=by
 refine fb Tryz.func285 (by kernel_rfl) rfl Tryz.ntmps285 Tryz.results285 rfl rfl rfl rfl fun E hS=>?_
 repeat'(first|refine sB ?_|(refine gN ?_;first|refine A7 (gk rfl) rfl rfl ?_)|(show VR _ _ _ (⟨_,.fieldAddr _ _ _,_,_,_,_⟩ :: _) _ _ _;first|refine A1 (gk rfl) rfl rfl rfl rfl rfl ?_)|refine Ak rfl (by exact tt0) ?_|refine Ap (by kernel_rfl) ?_|fail)
 all_goals exact BR Ab rfl rfl rfl rfl rfl
abbrev Fz:=Int
abbrev Fz.enc (x:Int):List D:=[.int .i64 x]
theorem AaI (l:List Int) (x:Int):FnS Tryz.prog 306 [AD (ints l),AI x] [] (AI (oI (Fs l fun y=>decide (x=y)))) []:=by
 refine fb Tryz.func306 (by kernel_rfl) rfl Tryz.ntmps306 Tryz.results306 rfl rfl rfl rfl fun E hS=>?_
 refine B9 (t:=0) rfl fun hb=>?_
 repeat'(first|refine sC ?_|refine Ak rfl (by exact tt0) ?_|fail)
 refine AK (ι:=Nat) (fun k=>AS [(0,AD (ints l)),(1,AI x),(7,AI l.length),(8,AI k)] []) (fun k=>k<=l.length/\∀i,i<k->decide (x=l.getD i default)=false) (fun k=>l.length-k) 0 ⟨Ag1 _,fun i hi=>absurd hi (AgW _)⟩ ?_ ?_
 ·refine lg ?_ ?_ rfl (by rfl)
  all_goals repeat'(first|exact tt0|refine⟨⟨_,rfl,?_⟩,?_⟩|exact .c .d|fail)
 ·intro k hk
  repeat'(first|refine sC ?_|refine Ak rfl (by first|exact tt0|omega) ?_|(refine gI ?_;first|refine Au (gk rfl) rfl rfl rfl rfl rfl (by omega) rfl ?_)|(refine gD ?_;first|(refine Ay rfl ?_ ?_<;>intro h<;>have hq:=h<;>(try simp only[hqs] at hq)))|fail)
  ·refine AG Ab rfl ?_;rw[Ey (l:=l) (p:=fun y=>decide (x=y)) hk.2 (by omega) (Agj (hq))];rfl
  ·refine⟨k+1,⟨by omega,fun i hi=>?_⟩,by omega,?_⟩
   ·by_cases hik:i<k
    ·exact hk.2 i hik
    ·have:i=k:=by omega
     subst this;exact Agk fun e=>hq (id e)
   ·refine lg ?_ ?_ rfl (by rfl)
    all_goals repeat'(first|exact tt0|refine⟨⟨_,rfl,?_⟩,?_⟩|exact .c .d|fail)
  ·refine AG Ab rfl ?_;have:k=l.length:=by omega
   subst this;rw[DR (l:=l) (p:=fun y=>decide (x=y)) hk.2];rfl
theorem TQ (l:List Int) (x:Int):FnS Tryz.prog 283 [AD (ints l),AI x] [] (AB (l.any fun y=>decide (x=y))) []:=by
 refine fb Tryz.func283 (by kernel_rfl) rfl Tryz.ntmps283 Tryz.results283 rfl rfl rfl rfl fun E hS=>?_
 repeat'(first|refine sB ?_|refine Ak rfl (by exact tt0) ?_|(refine gC ?_;first|refine Aa (AaI l x) (gk rfl) rfl rfl rfl (by rfl) rfl (by rfl) rfl ?_)|fail)
 all_goals exact Aw Ab rfl (E9 _ _).symm
set_option maxHeartbeats 1000000 in
theorem O0 (s:Sta) (slot:Int) (c:TC) (hck:AQ s=0):FnS Tryz.prog 234 [wP s slot c] [] (acA (Wc s slot c)) []:=by
 have hho:=IP s slot c c.Cb;refine fb Tryz.func234 (by kernel_rfl) rfl Tryz.ntmps234 Tryz.results234 rfl rfl rfl rfl fun E hS=>?_
 cases hsd:c.send with
 |false=>
  have hsd':(!c.send)=true:=by rw[hsd];rfl
  have e:Wc s slot c=Adc:=by rw[Wc,AgZ hsd]
  rw[e]
  repeat'(first|refine sB ?_|(refine gN ?_;first|refine A7 (gk rfl) rfl rfl ?_)|(show VR _ _ _ (⟨_,.fieldAddr _ _ _,_,_,_,_⟩ :: _) _ _ _;first|refine A1 (gk rfl) rfl rfl rfl rfl rfl ?_)|refine Ak rfl (by exact tt0) ?_|(refine gD ?_;first|refine Ai rfl ?_|refine At rfl (by assumption) ?_)|fail)
  exact BR Ab rfl rfl rfl rfl rfl
 |true=>
  have hsd':(!c.send)=false:=by rw[hsd];rfl
  cases hf:OH s.held c.Cb with
  |none=>
   have e:Wc s slot c=zAc:=by rw[Wc,AgY (by rw[hsd];simp),hf]
   rw[hf] at hho;have hho':FnS Tryz.prog 175 [wP s slot c,AI c.Cb] [] (AI (-1)) []:=hho;rw[e]
   repeat'(first|refine sB ?_|(refine gN ?_;first|refine A7 (gk rfl) rfl rfl ?_)|(show VR _ _ _ (⟨_,.fieldAddr _ _ _,_,_,_,_⟩ :: _) _ _ _;first|refine A1 (gk rfl) rfl rfl rfl rfl rfl ?_)|refine Ak rfl (by exact tt0) ?_|(refine gC ?_;first|refine Aa (hho') (gk rfl) rfl rfl rfl (by rfl) rfl (by rfl) rfl ?_)|refine Ap (by kernel_rfl) ?_|(refine gD ?_;first|refine Ai rfl ?_|refine Ah rfl ?_|refine At rfl (by assumption) ?_)|fail)
   exact BR Ab rfl rfl rfl rfl rfl
  |some i=>
   have e:Wc s slot c=if(s.held.getD i default).til<slot\/((s.held.getD i default).AT.any fun y=>decide (c.peer=y))=true then zAc else Afc s c (s.held.getD i default):=by rw[Wc,AgY (by rw[hsd];simp),hf]
   rw[hf] at hho;have hho':FnS Tryz.prog 175 [wP s slot c,AI c.Cb] [] (AI (i:Nat)) []:=hho;obtain⟨hi,_,_⟩:=BJ hf;have hfr:=DZ ((D8 (Bf hck).2.2.2.1).2 i hi).1;rw[e]
   repeat'(first|refine sB ?_|(refine gN ?_;first|refine A7 (gk rfl) rfl rfl ?_)|(show VR _ _ _ (⟨_,.fieldAddr _ _ _,_,_,_,_⟩ :: _) _ _ _;first|refine A1 (gk rfl) rfl rfl rfl rfl rfl ?_)|refine Ak rfl (by first|exact tt0|omega) ?_|(refine gC ?_;first|refine Aa (hho') (gk rfl) rfl rfl rfl (by rfl) rfl (by rfl) rfl ?_|refine Aa (TQ (s.held.getD i default).AT c.peer) (gk rfl) rfl rfl rfl (by rfl) rfl (by rfl) rfl ?_)|(refine gI ?_;first|refine Au (gk rfl) rfl rfl rfl rfl rfl (by omega) rfl ?_)|(refine Ax rfl ?_ ?_<;>intro h<;>have hq:=h<;>(try simp only[hqs] at hq))|refine Ap (by kernel_rfl) ?_|(refine gD ?_;first|refine Ai rfl ?_|refine Ah rfl ?_|refine At rfl (by assumption) ?_|(refine Ay rfl ?_ ?_<;>intro h<;>have hq:=h<;>(try simp only[hqs] at hq)))|fail)
   all_goals first
    |(exfalso;omega)
    |skip
   ·rw[AgZ (.inl hq)];exact BR Ab rfl rfl rfl rfl rfl
   ·rw[AgZ (.inr h)];exact BR Ab rfl rfl rfl rfl rfl
   ·rw[AgY (by rintro(h1|h1);omega;rw[h] at h1;cases h1)];exact BR Ab rfl rfl rfl rfl rfl
set_option maxHeartbeats 1000000 in
theorem QZ (s:Sta) (slot:Int) (c:TC):FnS Tryz.prog 235 [wP s slot c] [] (acA (Yu s c)) []:=by
 refine fb Tryz.func235 (by kernel_rfl) rfl Tryz.ntmps235 Tryz.results235 rfl rfl rfl rfl fun E hS=>?_
 cases hsd:c.send with
 |false=>
  have hsd':(!c.send)=true:=by rw[hsd];rfl
  have e:Yu s c=Adc:=by rw[Yu,AgZ hsd]
  rw[e]
  repeat'(first|refine sB ?_|(refine gN ?_;first|refine A7 (gk rfl) rfl rfl ?_)|(show VR _ _ _ (⟨_,.fieldAddr _ _ _,_,_,_,_⟩ :: _) _ _ _;first|refine A1 (gk rfl) rfl rfl rfl rfl rfl ?_)|refine Ak rfl (by exact tt0) ?_|(refine gD ?_;first|refine Ai rfl ?_|refine At rfl (by assumption) ?_)|fail)
  exact BR Ab rfl rfl rfl rfl rfl
 |true=>
  have hsd':(!c.send)=false:=by rw[hsd];rfl
  have e:Yu s c=if(DS s.qu c.peer).2=true then Adb s (DS s.qu c.peer).1 else zAc:=by rw[Yu,AgY (by rw[hsd];simp)]
  rw[e]
  repeat'(first|refine sB ?_|(refine gN ?_;first|refine A7 (gk rfl) rfl rfl ?_)|(show VR _ _ _ (⟨_,.fieldAddr _ _ _,_,_,_,_⟩ :: _) _ _ _;first|refine A1 (gk rfl) rfl rfl rfl rfl rfl ?_)|refine Ak rfl (by exact tt0) ?_|(refine gC ?_;first|refine Aa (L7 s.qu c.peer) (gk rfl) rfl rfl rfl (by rfl) rfl (by rfl) rfl ?_|refine Aa (I8 s slot c (DS s.qu c.peer).1) (gk rfl) rfl rfl rfl (by rfl) rfl (by rfl) rfl ?_)|refine Ap (by kernel_rfl) ?_|(refine gD ?_;first|refine Ah rfl ?_|refine At rfl (by assumption) ?_|(refine Ay rfl ?_ ?_<;>intro h<;>have hq:=h<;>(try simp only[hqs] at hq)))|fail)
  ·rw[AgZ h];exact BR Ab rfl rfl rfl rfl rfl
  ·rw[AgY (by rw[h];simp)];exact BR Ab rfl rfl rfl rfl rfl
set_option maxHeartbeats 1000000 in
theorem FG (s:Sta) (slot:Int) (c:TC):FnS Tryz.prog 236 [wP s slot c] [] (acA (YM s)) []:=by
 refine fb Tryz.func236 (by kernel_rfl) rfl Tryz.ntmps236 Tryz.results236 rfl rfl rfl rfl fun E hS=>?_
 repeat'(first|refine sB ?_|(refine gN ?_;first|refine A7 (gk rfl) rfl rfl ?_)|(show VR _ _ _ (⟨_,.fieldAddr _ _ _,_,_,_,_⟩ :: _) _ _ _;first|refine A1 (gk rfl) rfl rfl rfl rfl rfl ?_)|refine Ak rfl (by exact tt0) ?_|(refine gC ?_;first|refine Aa (Cc s slot c) (gk rfl) rfl rfl rfl (by rfl) rfl (by rfl) rfl ?_|refine Aa (I8 s slot c (Abz s (G3 s))) (gk rfl) rfl rfl rfl (by rfl) rfl (by rfl) rfl ?_)|(refine Ax rfl ?_ ?_<;>intro h<;>have hq:=h<;>(try simp only[hqs] at hq))|(refine gD ?_;first|refine Ah rfl ?_|(refine Ay rfl ?_ ?_<;>intro h<;>have hq:=h<;>(try simp only[hqs] at hq)))|fail)
 all_goals first
  |(rw[YM,AgZ ⟨by assumption,by omega⟩]
    exact BR Ab rfl rfl rfl rfl rfl)
  |(rw[YM,AgY (by rintro⟨h1,h2⟩;simp_all)]
    exact BR Ab rfl rfl rfl rfl rfl)
set_option maxHeartbeats 1000000 in
theorem UF (s:Sta) (slot:Int) (c:TC):FnS Tryz.prog 240 [wP s slot c] [] (pkA (Bz s c)) []:=by
 refine fb Tryz.func240 (by kernel_rfl) rfl Tryz.ntmps240 Tryz.results240 rfl rfl rfl rfl fun E hS=>?_
 repeat'(first|refine sB ?_|(refine gN ?_;first|refine A7 (gk rfl) rfl rfl ?_)|(show VR _ _ _ (⟨_,.fieldAddr _ _ _,_,_,_,_⟩ :: _) _ _ _;first|refine A1 (gk rfl) rfl rfl rfl rfl rfl ?_)|refine Ak rfl (by exact tt0) ?_|(refine gC ?_;first|refine Aa (Cc s slot c) (gk rfl) rfl rfl rfl (by rfl) rfl (by rfl) rfl ?_|refine Aa (L7 s.qu c.peer) (gk rfl) rfl rfl rfl (by rfl) rfl (by rfl) rfl ?_)|refine Ap (by kernel_rfl) ?_|(refine gD ?_;first|(refine Ay rfl ?_ ?_<;>intro h<;>have hq:=h<;>(try simp only[hqs] at hq)))|fail)
 ·rw[Bz,AgZ hq];exact BR Ab rfl rfl rfl rfl rfl
 ·rw[Bz,AgY hq];exact BR Ab rfl rfl rfl rfl rfl
theorem AeN {f1 f2 f3 z:C} {kd:Int} (h1:¬kd=1) (h2:¬kd=2) (h3:¬kd=3):(EX (Jw (Jw (Jw [] [1] f1) [2] f2) [3] f3) [kd]).getD z=z:=by
 simp[EX,Jw];rw[AgY (fun e=>h1 e.symm),AgY (fun e=>h2 e.symm),AgY (fun e=>h3 e.symm)]
 rfl
theorem Abn {σ:St} {f:Nat->Nat} {L:List Nat} {x:C} {y:D} (h:x=.d y):AW σ f L (.c x) (AD y):=by subst h;exact .c .d
theorem JC {a:Ac} {o:Int} (h:a.kind=0):RE a o=a:=AgZ h
theorem JD {a:Ac} {o:Int} (h:¬a.kind=0):RE a o={a with offset:=o}:=AgY h
set_option maxHeartbeats 1000000 in
theorem Cj (s:Sta) (slot:Int) (c:TC) (hck:AQ s=0):FnS Tryz.prog 172 [wP s slot c] [] (acA (C2 s slot c)) []:=by
 obtain⟨sl,of,kd,snd,pe,fl⟩:=c;refine fb Tryz.func172 (by kernel_rfl) rfl Tryz.ntmps172 Tryz.results172 rfl rfl rfl rfl fun E hS=>?_
 by_cases h1:kd=1
 ·subst h1;have e:C2 s slot ⟨sl,of,1,snd,pe,fl⟩=RE (Wc s slot ⟨sl,of,1,snd,pe,fl⟩) of:=by rw[C2,G1,AgZ rfl]
  rw[e]
  repeat'(first|refine sB ?_|(show VR _ _ _ (⟨_,.makeFunc _ #[_] #[],_,_,_,_⟩ :: _) _ _ _;first|refine HI (gk rfl) rfl rfl ?_)|(show VR _ _ _ (⟨_,.makeMap _ none,_,_,_,_⟩ :: _) _ _ _;first|refine Fh (gk rfl) rfl rfl ?_)|(show VR _ _ _ (⟨_,.insert _ _ _ _,_,_,_,_⟩ :: _) _ _ _;first|refine Gz (gk rfl) rfl rfl rfl rfl rfl rfl rfl ?_)|(show VR _ _ _ (⟨_,.lookup _ _ _ false,_,_,_,_⟩ :: _) _ _ _;first|refine Gy (gk rfl) rfl rfl rfl rfl rfl rfl rfl rfl ?_)|(show VR _ _ _ (⟨_,.binOp .eql _ _ (.const .nilFunc) _,_,_,_,_⟩ :: _) _ _ _;first|refine Mg (by kernel_rfl) (gk rfl) rfl rfl ?_)|(refine gN ?_;first|refine A7 (gk rfl) rfl rfl ?_)|(show VR _ _ _ (⟨_,.fieldAddr _ _ _,_,_,_,_⟩ :: _) _ _ _;first|refine A1 (gk rfl) rfl rfl rfl rfl rfl ?_)|refine Ak rfl (by exact tt0) ?_|(refine gC ?_;first|refine JU [] (O0 s slot ⟨sl,of,1,snd,pe,fl⟩ hck) (gk rfl) rfl rfl (by(repeat'(exact .nil))<;>fail) (by rfl) rfl (by rfl) rfl (by rfl) rfl ?_)|(refine gD ?_;first|refine Ah rfl ?_|(refine Ay rfl ?_ ?_<;>intro h<;>have hq:=h<;>(try simp only[hqs] at hq)))|fail)
  ·rw[JD hq];exact BR Ab rfl rfl rfl rfl rfl
  ·rw[JC hq];exact BR Ab rfl rfl rfl rfl rfl
 by_cases h2:kd=2
 ·subst h2;have e:C2 s slot ⟨sl,of,2,snd,pe,fl⟩=RE (Yu s ⟨sl,of,2,snd,pe,fl⟩) of:=by rw[C2,G1,AgY (by intro h;cases h),AgZ rfl]
  rw[e]
  repeat'(first|refine sB ?_|(show VR _ _ _ (⟨_,.makeFunc _ #[_] #[],_,_,_,_⟩ :: _) _ _ _;first|refine HI (gk rfl) rfl rfl ?_)|(show VR _ _ _ (⟨_,.makeMap _ none,_,_,_,_⟩ :: _) _ _ _;first|refine Fh (gk rfl) rfl rfl ?_)|(show VR _ _ _ (⟨_,.insert _ _ _ _,_,_,_,_⟩ :: _) _ _ _;first|refine Gz (gk rfl) rfl rfl rfl rfl rfl rfl rfl ?_)|(show VR _ _ _ (⟨_,.lookup _ _ _ false,_,_,_,_⟩ :: _) _ _ _;first|refine Gy (gk rfl) rfl rfl rfl rfl rfl rfl rfl rfl ?_)|(show VR _ _ _ (⟨_,.binOp .eql _ _ (.const .nilFunc) _,_,_,_,_⟩ :: _) _ _ _;first|refine Mg (by kernel_rfl) (gk rfl) rfl rfl ?_)|(refine gN ?_;first|refine A7 (gk rfl) rfl rfl ?_)|(show VR _ _ _ (⟨_,.fieldAddr _ _ _,_,_,_,_⟩ :: _) _ _ _;first|refine A1 (gk rfl) rfl rfl rfl rfl rfl ?_)|refine Ak rfl (by exact tt0) ?_|(refine gC ?_;first|refine JU [] (QZ s slot ⟨sl,of,2,snd,pe,fl⟩) (gk rfl) rfl rfl (by(repeat'(exact .nil))<;>fail) (by rfl) rfl (by rfl) rfl (by rfl) rfl ?_)|(refine gD ?_;first|refine Ah rfl ?_|(refine Ay rfl ?_ ?_<;>intro h<;>have hq:=h<;>(try simp only[hqs] at hq)))|fail)
  ·rw[JD hq];exact BR Ab rfl rfl rfl rfl rfl
  ·rw[JC hq];exact BR Ab rfl rfl rfl rfl rfl
 by_cases h3:kd=3
 ·subst h3;have e:C2 s slot ⟨sl,of,3,snd,pe,fl⟩=RE (YM s) of:=by rw[C2,G1,AgY (by intro h;cases h),AgY (by intro h;cases h),AgZ rfl]
  rw[e]
  repeat'(first|refine sB ?_|(show VR _ _ _ (⟨_,.makeFunc _ #[_] #[],_,_,_,_⟩ :: _) _ _ _;first|refine HI (gk rfl) rfl rfl ?_)|(show VR _ _ _ (⟨_,.makeMap _ none,_,_,_,_⟩ :: _) _ _ _;first|refine Fh (gk rfl) rfl rfl ?_)|(show VR _ _ _ (⟨_,.insert _ _ _ _,_,_,_,_⟩ :: _) _ _ _;first|refine Gz (gk rfl) rfl rfl rfl rfl rfl rfl rfl ?_)|(show VR _ _ _ (⟨_,.lookup _ _ _ false,_,_,_,_⟩ :: _) _ _ _;first|refine Gy (gk rfl) rfl rfl rfl rfl rfl rfl rfl rfl ?_)|(show VR _ _ _ (⟨_,.binOp .eql _ _ (.const .nilFunc) _,_,_,_,_⟩ :: _) _ _ _;first|refine Mg (by kernel_rfl) (gk rfl) rfl rfl ?_)|(refine gN ?_;first|refine A7 (gk rfl) rfl rfl ?_)|(show VR _ _ _ (⟨_,.fieldAddr _ _ _,_,_,_,_⟩ :: _) _ _ _;first|refine A1 (gk rfl) rfl rfl rfl rfl rfl ?_)|refine Ak rfl (by exact tt0) ?_|(refine gC ?_;first|refine JU [] (FG s slot ⟨sl,of,3,snd,pe,fl⟩) (gk rfl) rfl rfl (by(repeat'(exact .nil))<;>fail) (by rfl) rfl (by rfl) rfl (by rfl) rfl ?_)|(refine gD ?_;first|refine Ah rfl ?_|(refine Ay rfl ?_ ?_<;>intro h<;>have hq:=h<;>(try simp only[hqs] at hq)))|fail)
  ·rw[JD hq];exact BR Ab rfl rfl rfl rfl rfl
  ·rw[JC hq];exact BR Ab rfl rfl rfl rfl rfl
 have e:C2 s slot ⟨sl,of,kd,snd,pe,fl⟩=zAc:=by
  rw[C2,G1,AgY h1,AgY h2,AgY h3];exact JC rfl
 rw[e]
 repeat'(first|refine sR ?_|(show VR _ _ _ (⟨_,.makeFunc _ #[_] #[],_,_,_,_⟩ :: _) _ _ _;first|refine HI (gk rfl) rfl rfl ?_)|(show VR _ _ _ (⟨_,.makeMap _ none,_,_,_,_⟩ :: _) _ _ _;first|refine Fh (gk rfl) rfl rfl ?_)|(show VR _ _ _ (⟨_,.insert _ _ _ _,_,_,_,_⟩ :: _) _ _ _;first|refine Gz (gk rfl) rfl rfl rfl rfl rfl rfl rfl ?_)|(show VR _ _ _ (⟨_,.lookup _ _ _ false,_,_,_,_⟩ :: _) _ _ _;first|refine Gy (gk rfl) rfl rfl rfl rfl rfl rfl rfl rfl ?_)|(refine gN ?_;first|refine A7 (gk rfl) rfl rfl ?_)|(show VR _ _ _ (⟨_,.fieldAddr _ _ _,_,_,_,_⟩ :: _) _ _ _;first|refine A1 (gk rfl) rfl rfl rfl rfl rfl ?_)|refine Ak rfl (by exact tt0) ?_|refine sq 2 rfl ?_|fail)
 refine VC.le (σ':=AS [(2,.c (.ptr 2 0)),(3,AD (.raw .nilFunc))] [(2,.box zAc.cs)]) ?_ ?_
 ·refine lg ?_ ?_ rfl (by rfl)
  all_goals repeat'(first|exact tt0|refine⟨⟨_,rfl,?_⟩,?_⟩|exact .c (.ptr rfl)|exact .Bs rfl rfl|fail)
  exact Abn (AeN h1 h2 h3)
 repeat'(first|refine sB ?_|(show VR _ _ _ (⟨_,.binOp .eql _ _ (.const .nilFunc) _,_,_,_,_⟩ :: _) _ _ _;first|refine Uh (by kernel_rfl) (gk rfl) rfl rfl ?_)|refine Ak rfl (by exact tt0) ?_|(refine gD ?_;first|refine Ai rfl ?_)|fail)
 exact BR Ab rfl rfl rfl rfl rfl
theorem Rr {n:Nat} {g:Nat->Int} (h:∀i,i<n->0<=g i/\g i<=31/\(0<i->g (i-1)<g i)):n<=32:=by
 have h1:∀i,i<n->(i:Int)<=g i:=by
  intro i
  induction i with
  |zero=>intro hi;have:=(h 0 hi).1;omega
  |succ i ih=>
   intro hi;have h2:=ih (by omega);have h3:=(h (i+1) hi).2.2 (by omega);rw[Nat.add_sub_cancel] at h3;omega
 rcases Ag2 32 n with h4|h4
 ·have:=h1 32 h4;have:=(h 32 h4).2.1;omega
 ·exact h4
theorem GD {l:List Int} (h:EH l=true):∀i,i<l.length->0<=l.getD i default/\l.getD i default<=31/\(0<i->l.getD (i-1) default<l.getD i default):=by
 intro i hi;simp only[EH,Bool.not_eq_true'] at h;have:=AgJ (IX h hi);omega
theorem Hq {l:List Int} (h:EH l=true):l.length<=32:=Rr (g:=fun i=>l.getD i default) (GD h)
theorem Mp {l:List Sn} (h:Hp l=true):∀i,i<l.length->0<=(l.getD i default).node/\(l.getD i default).node<=31/\0<=(l.getD i default).seq/\(l.getD i default).seq<=255/\(0<i->(l.getD (i-1) default).node<(l.getD i default).node):=by
 intro i hi;simp only[Hp,Bool.not_eq_true'] at h;have:=AgJ (IX h hi);omega
theorem J4 {l:List Sn} (h:Hp l=true):l.length<=32:=Rr (g:=fun i=>(l.getD i default).node) fun i hi=>by
 have:=Mp h i hi;exact⟨this.1,this.2.1,this.2.2.2.2⟩
theorem MZ (l:List TC) (hl:l.length<=100000):FnS Tryz.prog 64 [AD (tcs l)] [] (.c (.row 7 l.length)) [(7,.row 107 6 (rowOf TC.enc l))]:=by
 refine fb Tryz.func64 (by kernel_rfl) rfl Tryz.ntmps64 Tryz.results64 rfl rfl rfl rfl fun E hS=>?_
 refine AJ ?_
 repeat'(first|refine sR ?_|refine Ak rfl (by exact tt0) ?_|refine sq 1 rfl ?_|fail)
 refine BC ?_;refine BC ?_;refine FD rfl rfl rfl rfl fun b hb=>?_
 repeat'(first|refine sB ?_|refine Ak rfl (by exact tt0) ?_|(refine gA ?_;first|refine Be (gk rfl) rfl rfl rfl (by rfl) (by exact .rd) rfl rfl rfl (by(try dsimp only);omega) rfl rfl ?_)|(refine gD ?_;first|(refine Ay rfl ?_ ?_<;>intro h<;>have hq:=h<;>(try simp only[hqs] at hq)))|fail)
 ·have h0:l=[]:=Ag9 (hb (by assumption));subst h0;exact Ao (le_nil (T:=107) (sz:=6) (nm:=7) (t:=2) rfl rfl) (Bn Ab rfl rfl)
 ·refine Ao (Am (l:=[(2,.c (.row 7 l.length))]) (b:=[(7,.row 107 6 (rowOf TC.enc l))]) (fun n=>n) ⟨⟨_,rfl,.c (.row rfl (by simp))⟩,trivial⟩ ⟨⟨_,rfl,.Bc ?_ Ag⟩,trivial⟩ rfl (by simp only[wfL,wfs];rfl)) (Bn Ab rfl rfl);exact(List.nil_append _).trans (FI (enc:=TC.enc) (sz:=6) fun _=>rfl)
theorem Sb (l:List Hd) (hl:l.length<=100000):FnS Tryz.prog 214 [AD (hds l)] [] (.c (.row 7 l.length)) [(7,.row 110 5 (rowOf Hd.enc l))]:=by
 refine fb Tryz.func214 (by kernel_rfl) rfl Tryz.ntmps214 Tryz.results214 rfl rfl rfl rfl fun E hS=>?_
 refine AJ ?_
 repeat'(first|refine sR ?_|refine Ak rfl (by exact tt0) ?_|refine sq 1 rfl ?_|fail)
 refine BC ?_;refine BC ?_;refine FD rfl rfl rfl rfl fun b hb=>?_
 repeat'(first|refine sB ?_|refine Ak rfl (by exact tt0) ?_|(refine gA ?_;first|refine Be (gk rfl) rfl rfl rfl (by rfl) (by exact .rd) rfl rfl rfl (by(try dsimp only);omega) rfl rfl ?_)|(refine gD ?_;first|(refine Ay rfl ?_ ?_<;>intro h<;>have hq:=h<;>(try simp only[hqs] at hq)))|fail)
 ·have h0:l=[]:=Ag9 (hb (by assumption));subst h0;exact Ao (le_nil (T:=110) (sz:=5) (nm:=7) (t:=2) rfl rfl) (Bn Ab rfl rfl)
 ·refine Ao (Am (l:=[(2,.c (.row 7 l.length))]) (b:=[(7,.row 110 5 (rowOf Hd.enc l))]) (fun n=>n) ⟨⟨_,rfl,.c (.row rfl (by simp))⟩,trivial⟩ ⟨⟨_,rfl,.Bc ?_ Ag⟩,trivial⟩ rfl (by simp only[wfL,wfs];rfl)) (Bn Ab rfl rfl);exact(List.nil_append _).trans (FI (enc:=Hd.enc) (sz:=5) fun _=>rfl)
theorem Sa (l:List Sn) (hl:l.length<=100000):FnS Tryz.prog 215 [AD (sns l)] [] (.c (.row 7 l.length)) [(7,.row 123 2 (rowOf Sn.enc l))]:=by
 refine fb Tryz.func215 (by kernel_rfl) rfl Tryz.ntmps215 Tryz.results215 rfl rfl rfl rfl fun E hS=>?_
 refine AJ ?_
 repeat'(first|refine sR ?_|refine Ak rfl (by exact tt0) ?_|refine sq 1 rfl ?_|fail)
 refine BC ?_;refine BC ?_;refine FD rfl rfl rfl rfl fun b hb=>?_
 repeat'(first|refine sB ?_|refine Ak rfl (by exact tt0) ?_|(refine gA ?_;first|refine Be (gk rfl) rfl rfl rfl (by rfl) (by exact .rd) rfl rfl rfl (by(try dsimp only);omega) rfl rfl ?_)|(refine gD ?_;first|(refine Ay rfl ?_ ?_<;>intro h<;>have hq:=h<;>(try simp only[hqs] at hq)))|fail)
 ·have h0:l=[]:=Ag9 (hb (by assumption));subst h0;exact Ao (le_nil (T:=123) (sz:=2) (nm:=7) (t:=2) rfl rfl) (Bn Ab rfl rfl)
 ·refine Ao (Am (l:=[(2,.c (.row 7 l.length))]) (b:=[(7,.row 123 2 (rowOf Sn.enc l))]) (fun n=>n) ⟨⟨_,rfl,.c (.row rfl (by simp))⟩,trivial⟩ ⟨⟨_,rfl,.Bc ?_ Ag⟩,trivial⟩ rfl (by simp only[wfL,wfs];rfl)) (Bn Ab rfl rfl);exact(List.nil_append _).trans (FI (enc:=Sn.enc) (sz:=2) fun _=>rfl)
theorem M0 (l:List Fz) (hl:l.length<=100000):FnS Tryz.prog 216 [AD (ints l)] [] (.c (.row 7 l.length)) [(7,.row 3 1 (rowOf Fz.enc l))]:=by
 refine fb Tryz.func216 (by kernel_rfl) rfl Tryz.ntmps216 Tryz.results216 rfl rfl rfl rfl fun E hS=>?_
 refine AJ ?_
 repeat'(first|refine sR ?_|refine Ak rfl (by exact tt0) ?_|refine sq 1 rfl ?_|fail)
 refine BC ?_;refine BC ?_;refine FD rfl rfl rfl rfl fun b hb=>?_
 repeat'(first|refine sB ?_|refine Ak rfl (by exact tt0) ?_|(refine gA ?_;first|refine Be (gk rfl) rfl rfl rfl (by rfl) (by exact .rd) rfl rfl rfl (by(try dsimp only);omega) rfl rfl ?_)|(refine gD ?_;first|(refine Ay rfl ?_ ?_<;>intro h<;>have hq:=h<;>(try simp only[hqs] at hq)))|fail)
 ·have h0:l=[]:=Ag9 (hb (by assumption));subst h0;exact Ao (le_nil (T:=3) (sz:=1) (nm:=7) (t:=2) rfl rfl) (Bn Ab rfl rfl)
 ·refine Ao (Am (l:=[(2,.c (.row 7 l.length))]) (b:=[(7,.row 3 1 (rowOf Fz.enc l))]) (fun n=>n) ⟨⟨_,rfl,.c (.row rfl (by simp))⟩,trivial⟩ ⟨⟨_,rfl,.Bc ?_ Ag⟩,trivial⟩ rfl (by simp only[wfL,wfs];rfl)) (Bn Ab rfl rfl);exact(List.nil_append _).trans (FI (enc:=Fz.enc) (sz:=1) fun _=>rfl)
def Sta.csR (s:Sta) (H S:C):List C:=[.d (.int .i64 s.tb.node),.d (.int .i64 s.tb.len),.d (tcs s.tb.cells),.d (.int .i64 s.qu.Bk),.d (pks s.qu.Af),H,S,
 .d (.int .i64 s.list),.d (.int .i64 s.seq),.d (.int .i64 s.Bl),.d (.int .i64 s.tries),.d (.int .i64 s.back),.d (.int .i64 s.wait),.d (.int .i64 s.CY)]
theorem Y4 {σ:St} {f:Nat->Nat} {L:List Nat} {T k:Nat} {l:List Hd} {c:C} (hk:k<l.length) (hc:CW σ f L c (.d (ints (l.getD k default).AT))):
  BW σ f L (.row T 5 ((rowOf Hd.enc l).set k (Em ((Hd.enc (l.getD k default)).map C.d) 4 [c]))) (.row T 5 (rowOf Hd.enc l)):=by
 refine .row ?_;refine A5.RF (by simp) fun i a b ha hb=>?_
 have hi:i<l.length:=by have:=(Ag3.1 hb).1;rwa [Al] at this
 rw[Cf hi] at hb;injection hb with hb;subst hb
 by_cases hik:i=k
 ·subst hik;rw[ID (Cf hi)] at ha;injection ha with ha;subst ha
  exact .cons .d (.cons .d (.cons .d (.cons .d (.cons hc .nil))))
 ·rw[AgG (fun e=>hik e.symm),Cf hi] at ha;injection ha with ha;subst ha
  exact CWs.refl (by simp[Hd.enc,C.isD])
set_option maxHeartbeats 1000000 in
theorem DE (s:Sta) (hck:AQ s=0):FnS Tryz.prog 160 [stA s] [] (.agg (s.csR (.row 101 s.held.length) (.row 102 s.seen.length)))
  [(101,.row 110 5 (rowOf Hd.enc s.held)),(102,.row 123 2 (rowOf Sn.enc s.seen))]:=by
 obtain⟨hT,hQ,_,hH,hSn,_,_⟩:=Bf hck;have hTl:=Cn hT;have hQl:=CP hQ;have hHl:=D8 hH;have hSl:=J4 hSn;refine fb Tryz.func160 (by kernel_rfl) rfl Tryz.ntmps160 Tryz.results160 rfl rfl rfl rfl fun E hS=>?_
 refine AJ ?_
 repeat'(first|refine sC ?_|refine Ak rfl (by exact tt0) ?_|(refine gC ?_;first|refine Aa (MZ s.tb.cells (by omega)) (gk rfl) rfl rfl rfl (by(simp only[A0,wfL,AH,wfs,Ae,Ad];rfl)) rfl (by exact Bx) rfl ?_|refine Aa (GU s.qu.Af (by omega)) (gk rfl) rfl rfl rfl (by(simp only[A0,wfL,AH,wfs,Ae,Ad];rfl)) rfl (by exact Bx) rfl ?_|refine Aa (Sb s.held (by omega)) (gk rfl) rfl rfl rfl (by(simp only[A0,wfL,AH,wfs,Ae,Ad];rfl)) rfl (by exact Bx) rfl ?_|refine Aa (Sa s.seen (by omega)) (gk rfl) rfl rfl rfl (by(simp only[A0,wfL,AH,wfs,Ae,Ad];rfl)) rfl (by exact Bx) rfl ?_)|(refine gE ?_;first|refine BB (gk rfl) rfl rfl (by exact Al.symm) rfl rfl ?_)|refine Ap (by kernel_rfl) ?_|fail)
 refine AK (ι:=Nat) (fun k=>AS [(1,.c (.ptr 1 0)),(2,.c (.ptr 2 0)),(26,AI s.held.length),(27,AI k)] [(1,.box (s.csR (.row 101 s.held.length) (.row 102 s.seen.length))),(2,.box noS.cs),(101,.row 110 5 (rowOf Hd.enc s.held)),(102,.row 123 2 (rowOf Sn.enc s.seen))])
  (fun k=>k<=s.held.length) (fun k=>s.held.length-k) 0 (Ag1 _) ?_ ?_
 ·refine Bm (fun n=>if n=101 then 18007 else if n=102 then 21007 else n) [7007,11007] hS ?_ ?_ rfl (by(simp only[wfL,wfs,Ae,Ad];rfl))
  all_goals repeat'(first|exact tt0|refine⟨⟨_,rfl,?_⟩,?_⟩|exact .c .d|exact .c (.ptr rfl)|exact .Bc rfl Ag|refine .box ?_|exact .nil|refine .cons ?_ ?_|exact .d|exact .row rfl rfl|exact .Cd (by(simp;done)) rfl rfl (fun _=>rfl)|fail)
 ·intro k hk;rcases Ag2 k s.held.length with hlt|hge
  ·have hal:=Hq (DZ (hHl.2 k hlt).1).2.2.2.2.2.2
   repeat'(first|refine sC ?_|refine Ak rfl (by first|exact tt0|omega) ?_|(refine gC ?_;first|refine Aa (M0 (s.held.getD k default).AT (by omega)) (gk rfl) rfl rfl rfl (by(simp only[A0,wfL,AH,wfs,Ae,Ad];rfl)) rfl (by exact Bx) rfl ?_)|(refine gI ?_;first|refine BG (gk rfl) rfl rfl rfl rfl rfl rfl (by omega) (by omega) rfl ?_)|(refine gL ?_;first|refine Co (gk rfl) rfl rfl (by omega) rfl rfl rfl ?_)|(refine gS ?_;first|refine By (gk rfl) rfl rfl rfl (by omega) rfl rfl rfl ?_)|refine Ap (by kernel_rfl) ?_|(refine gD ?_;first|(refine Ay rfl ?_ ?_<;>intro h<;>have hq:=h<;>(try simp only[hqs] at hq)))|fail)
   all_goals first
    |(exfalso;omega)
    |skip
   refine⟨k+1,by omega,by omega,?_⟩;refine Bm (fun n=>n) [39007] hS ?_ ?_ rfl (by(simp only[wfL,wfs,Ae,Ad];rfl))
   all_goals repeat'(first|exact tt0|refine⟨⟨_,rfl,?_⟩,?_⟩|exact .c .d|exact .c (.ptr rfl)|exact .Bs rfl rfl|exact .Bc rfl Ag|refine .box ?_|exact .nil|refine .cons ?_ ?_|exact .d|exact .row rfl rfl|fail)
   exact Y4 hlt (.Cd (enc:=Fz.enc) (by simp) rfl rfl (fun _=>rfl))
  ·repeat'(first|refine sC ?_|refine Ak rfl (by exact tt0) ?_|(refine gD ?_;first|(refine Ay rfl ?_ ?_<;>intro h<;>have hq:=h<;>(try simp only[hqs] at hq)))|fail)
   all_goals first
    |(exfalso;omega)
    |skip
   refine Ao (Am (l:=[(2,.c (.ptr 2 0))]) (b:=[(2,.box (s.csR (.row 101 s.held.length) (.row 102 s.seen.length))),(101,.row 110 5 (rowOf Hd.enc s.held)),(102,.row 123 2 (rowOf Sn.enc s.seen))]) (fun n=>n) ?_ ?_ rfl (by(simp only[wfL,wfs,Ae,Ad];rfl))) (DG Ab (.agg rfl rfl rfl rfl .nil) rfl (by repeat'(first|exact tt0|refine⟨rfl,?_⟩)))
   all_goals repeat'(first|exact tt0|refine⟨⟨_,rfl,?_⟩,?_⟩|exact .c (.ptr rfl)|exact .Bc rfl Ag|refine .box ?_|exact .nil|refine .cons ?_ ?_|exact .d|exact .row rfl rfl|fail)
end Go.Proofs
end
