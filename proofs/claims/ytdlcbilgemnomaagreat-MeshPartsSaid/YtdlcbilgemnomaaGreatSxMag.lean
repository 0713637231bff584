/-
  What functions of the program hand back, and plain laws on that. No condition.
-/
import Derived.Test.YtdlcbilgemnomaaGreatSxMaf
import Derived.Test.YtdlcbilgemnomaaGreatSxMab
import Derived.Test.YtdlcbilgemnomaaGreatSxMad
import Derived.Test.YtdlcbilgemnomaaGreatSxMae
import Derived.Test.YtdlcbilgemnomaaGreatSxLibC
import Derived.Test.YtdlcbilgemnomaaGreatSxMaa
set_option linter.unusedSimpArgs false
set_option linter.unusedVariables false
section
namespace Go.Proofs
open Go Go.Sx Go.Proofs.T Go.Proofs.Q
set_option maxRecDepth 4000
attribute [local irreducible] VR VC thenQ blockQ retL
def Rz (s:Sta) (c:TC):Sta:=if(G0 s).isSome=true/\c.kind=3 then{s with wait:=s.wait-1} else s
def Aas (s:Sta) (a:Ac):Sta:=match Oa s.held a.Ca with
 |none=>s
 |some i=>{s with held:=s.held.set i {s.held.getD i default with AQ:=MV id (s.held.getD i default).AQ a.target}}
def CT (s:Sta) (slot:Int) (c:TC) (r:Rs):Sta×Up:=
 if(CV s slot c).kind=1/\(CV s slot c).B1=1 then(if r.AQ=true then Aas s (CV s slot c) else s,zUp)
 else if(CV s slot c).kind=1 then(C3 s c r.AQ,zUp)
 else if(CV s slot c).kind=2 then if r.heard=true then Ch (Rz s c) (KC r) else(Rz s c,zUp)
 else(s,zUp)
def ES (s:Sta) (slot:Int) (r:Rs):Sta×Up×Int:=if AT s≠0 then(noS,zUp,1) else if ¬(0<=slot/\slot<=109951162) then(noS,zUp,2) else((CT s slot (atM s.tb slot).1 r).1,(CT s slot (atM s.tb slot).1 r).2,0)
theorem Xh (s:Sta) (slot:Int) (r:Rs) (hck:¬AT s=0):FnS Tryz.prog 130 [stA s,AI slot,rsA r] [] (.tup [stA noS,upA zUp,AI 1]) []:=by
 refine fb Tryz.func130 (by kernel_rfl) rfl Tryz.ntmps130 Tryz.results130 rfl rfl rfl rfl fun E hS=>?_
 refine AK ?_
 repeat'(first|refine sB ?_|refine Aj rfl (by exact tt0) ?_|(refine gC ?_;first|refine Aa (Ni s slot hck) (gk rfl) rfl rfl rfl (by rfl) rfl (by exact Aw) rfl ?_)|(refine gD ?_;first|refine Ah rfl ?_)|fail)
 refine An (Am (l:=[(6,.c (.ptr 6 0)),(7,.c (.ptr 7 0)),(8,AI 1)]) (b:=[(6,.box noS.cs),(7,.box zUp.cs)]) (fun n=>n) ?_ ?_ rfl (by rfl)) (A8 Ab rfl rfl rfl rfl rfl rfl rfl rfl rfl rfl rfl rfl)
 all_goals repeat'(first|exact tt0|refine⟨⟨_,rfl,?_⟩,?_⟩|exact .c .d|exact .c (.ptr rfl)|exact .Bh rfl rfl|refine .box ?_|exact .nil|refine .cons ?_ ?_|exact .d|fail)
theorem SQ (s:Sta) (slot:Int) (r:Rs) (hck:AT s=0) (hs:¬(0<=slot/\slot<=109951162)):FnS Tryz.prog 130 [stA s,AI slot,rsA r] [] (.tup [stA noS,upA zUp,AI 2]) []:=by
 refine fb Tryz.func130 (by kernel_rfl) rfl Tryz.ntmps130 Tryz.results130 rfl rfl rfl rfl fun E hS=>?_
 refine AK ?_
 repeat'(first|refine sB ?_|refine Aj rfl (by exact tt0) ?_|(refine gC ?_;first|refine Aa (JL s slot hck hs) (gk rfl) rfl rfl rfl (by rfl) rfl (by exact Aw) rfl ?_)|(refine gD ?_;first|refine Ah rfl ?_)|fail)
 refine An (Am (l:=[(6,.c (.ptr 6 0)),(7,.c (.ptr 7 0)),(8,AI 2)]) (b:=[(6,.box noS.cs),(7,.box zUp.cs)]) (fun n=>n) ?_ ?_ rfl (by rfl)) (A8 Ab rfl rfl rfl rfl rfl rfl rfl rfl rfl rfl rfl rfl)
 all_goals repeat'(first|exact tt0|refine⟨⟨_,rfl,?_⟩,?_⟩|exact .c .d|exact .c (.ptr rfl)|exact .Bh rfl rfl|refine .box ?_|exact .nil|refine .cons ?_ ?_|exact .d|fail)
theorem Mp (s:Sta) (f:Fr):stA (Ch s f).1=.agg ((Ch s f).1.csR (.d (hds s.held)) (.d (sns (Ch s f).1.seen))):=by
 have h:(Ch s f).1.held=s.held:=by
  unfold Ch
  repeat' split
  all_goals rfl
 rw[<-h];rfl
set_option maxHeartbeats 4000000 in
theorem Vf (s:Sta) (slot:Int) (r:Rs) (hck:AT s=0) (hs:0<=slot/\slot<=109951162) (hna:¬((CV s slot (atM s.tb slot).1).kind=1/\(CV s slot (atM s.tb slot).1).B1=1/\r.AQ=true)):
  FnS Tryz.prog 130 [stA s,AI slot,rsA r] [] (.tup [stA (CT s slot (atM s.tb slot).1 r).1,upA (CT s slot (atM s.tb slot).1 r).2,AI 0]) []:=by
 obtain⟨_,_,_,_,hsn,_,hrb⟩:=Bl hck;have hrb:=FB hrb;have hpw:=(Acn s.back).resolve_left (by omega) |>.resolve_left (by omega);refine fb Tryz.func130 (by kernel_rfl) rfl Tryz.ntmps130 Tryz.results130 rfl rfl rfl rfl fun E hS=>?_
 refine AK ?_
 repeat'(first|refine sR ?_|refine Aj rfl (by exact tt0) ?_|(refine gC ?_;first|refine Aa (Gx s slot hck hs) (gk rfl) rfl rfl rfl (by(simp only[AZ,wfL,AH,wfs,Ae,Ad];rfl)) rfl (by((simp only[Ep,List.map_cons,List.map_nil,Blk.shift,Cr])<;>rfl)) rfl ?_)|refine sq 4 rfl ?_|(refine gD ?_;first|refine Ag rfl ?_)|fail)
 all_goals first
  |(exfalso;omega)
  |skip
 generalize atM s.tb slot=ac at hna ⊢;obtain⟨c,ok⟩:=ac;dsimp only at hna ⊢;refine VC.le (σ':=AS [(5,.c (.ptr 5 0)),(6,.c (.ptr 6 0)),(7,.c (.ptr 7 0)),(8,AI 0),(9,.c (.ptr 100 0))] [(5,.box r.cs),(6,.box noS.cs),(7,.box zUp.cs),(100,.box (wcs s (.d (hds s.held)) (.row 102 s.seen.length) slot c)),(102,.row 123 2 (rowOf Sn.enc s.seen))]) ?_ ?_
 ·refine Bv (fun n=>if n=100 then 19100 else if n=102 then 19102 else n) [19101] hS ?_ ?_ rfl (by(simp only[wfL,wfs,Ae,Ad];rfl))
  all_goals repeat'(first|exact tt0|refine⟨⟨_,rfl,?_⟩,?_⟩|exact .c .d|exact .c (.ptr rfl)|exact .Bh rfl rfl|exact .Bc rfl Ai|refine .box ?_|exact .nil|refine .cons ?_ ?_|exact .d|exact .row rfl rfl|exact .Ck (by(simp;done)) rfl rfl (fun _=>rfl)|fail)
 by_cases k1:(CV s slot c).kind=1
 ·have d1:decide ((CV s slot c).kind=1)=true:=Aed k1;by_cases k2:(CV s slot c).B1=1
  ·have d2:decide ((CV s slot c).B1=1)=true:=Aed k2;have hac:r.AQ=false:=by
    cases h:r.AQ with
    |true=>exact absurd ⟨k1,k2,h⟩ hna
    |false=>rfl
   have e:CT s slot c r=(s,zUp):=by rw[CT,AeT ⟨k1,k2⟩,AeS (by rw[hac];simp)]
   rw[e]
   repeat'(first|refine sC ?_|refine Aj rfl (by exact tt0) ?_|(refine gC ?_;first|refine AJ [100,102] (Cg s slot c hck) (gk rfl) rfl (by(repeat'(first|exact .nil|refine .cons ?_ ?_|exact(KE (by simp) rfl .d (A9 (by simp) rfl rfl (fun _=>rfl)))))<;>fail) (by rfl) rfl (by rfl) rfl (by exact Aw) rfl ?_)|(refine gN ?_;first|refine Ak (gk rfl) rfl rfl ?_)|refine Az rfl (by assumption) ?_|refine Ap (by kernel_rfl) ?_|(refine gD ?_;first|refine Ah rfl ?_|refine Ag rfl ?_|refine At rfl (by assumption) ?_)|fail)
   refine An (Bv (l:=[(6,.c (.ptr 6 0)),(7,.c (.ptr 7 0)),(8,AI 0)]) (b:=[(6,.box s.cs),(7,.box zUp.cs)]) (fun n=>n) [102] hS ?_ ?_ rfl (by rfl)) (A8 Ab rfl rfl rfl rfl rfl rfl rfl rfl rfl rfl rfl rfl)
   all_goals repeat'(first|exact tt0|refine⟨⟨_,rfl,?_⟩,?_⟩|exact .c .d|exact .c (.ptr rfl)|exact .Bh rfl rfl|refine .box ?_|exact .nil|refine .cons ?_ ?_|exact .d|exact .Ck (by(simp;done)) rfl rfl (fun _=>rfl)|fail)
  ·have d2:decide ((CV s slot c).B1=1)=false:=Aee k2;have e:CT s slot c r=(C3 s c r.AQ,zUp):=by rw[CT,AeS (fun h=>k2 h.2),AeT k1]
   rw[e];have ht:(C3 s c r.AQ).seen=s.seen/\(C3 s c r.AQ).held=s.held:=by
    unfold C3 UL OR DB
    repeat' split
    all_goals exact⟨rfl,rfl⟩
   have e3:stA (C3 s c r.AQ)=.agg ((C3 s c r.AQ).csR (.d (hds s.held)) (.d (sns s.seen))):=by rw[<-ht.1,<-ht.2];rfl
   rw[show(C3 s c r.AQ,zUp).1=C3 s c r.AQ from rfl,e3]
   repeat'(first|(refine gR ?_;first|refine Aj rfl (by exact tt0) ?_|(refine gC ?_;first|refine AJ [100,102] (Cg s slot c hck) (gk rfl) rfl (by(repeat'(first|exact .nil|refine .cons ?_ ?_|exact(KE (by simp) rfl .d (A9 (by simp) rfl rfl (fun _=>rfl)))))<;>fail) (by rfl) rfl (by rfl) rfl (by exact Aw) rfl ?_|refine B5 (nmL []) [] [100,102] (RG s slot c r.AQ hck) (gk rfl) rfl rfl (by(repeat'(first|exact .nil|refine .cons ?_ ?_|exact .w (.c (.ptr rfl)) rfl|exact .r (.of0 (.c .d))))<;>fail) (by(repeat'(first|exact tt0|refine⟨⟨_,rfl,?_⟩,?_⟩|exact .Bc rfl Ai|refine .box ?_|exact .nil|refine .cons ?_ ?_|exact .d|exact .row rfl rfl))<;>fail) rfl rfl rfl (by rfl) rfl (by(simp only[AZ,wfL,AH,wfs,Ae,Ad];rfl)) rfl rfl rfl (by(simp only[F2,List.map_cons,List.map_nil,Blk.ren,C.ren,Bw,B0,BZ,gW,D8,nmL,Nat.reduceBEq,Bool.or_false,Bool.or_true,Bool.false_or,Bool.true_or,cond_true,cond_false,Nat.reduceMul,Nat.reduceAdd])<;>rfl) (by(simp only[AV.ren,AV.Ik,List.map_cons,List.map_nil,C.ren,gW,D8,nmL,Nat.reduceBEq,Bool.or_false,Bool.or_true,Bool.false_or,Bool.true_or,cond_true,cond_false,Nat.reduceMul,Nat.reduceAdd])<;>rfl) rfl ?_)|(refine gN ?_;first|refine Ak (gk rfl) rfl rfl ?_)|refine Az rfl (by assumption) ?_)|(refine gO ?_;first|refine C7 ?_|refine Ap (by kernel_rfl) ?_)|(refine gT ?_;first|refine BX ?_)|(refine gK ?_;first|refine Gg ?_)|refine BB ?_|refine Be ?_|refine Cp ?_|(show VC _ (.cond _ _ _) _ _;first|refine Ah rfl ?_|refine Ag rfl ?_|refine At rfl (by assumption) ?_)|refine IN ?_|refine BV ?_)
   refine An (Bv (l:=[(6,.c (.ptr 6 0)),(7,.c (.ptr 7 0)),(8,AI 0)]) (b:=[(6,.box ((C3 s c r.AQ).csR (.d (hds s.held)) (.d (sns s.seen)))),(7,.box zUp.cs)]) (fun n=>n) [102] hS ?_ ?_ rfl (by rfl)) (A8 Ab rfl rfl rfl rfl rfl rfl rfl rfl rfl rfl rfl rfl)
   all_goals repeat'(first|exact tt0|refine⟨⟨_,rfl,?_⟩,?_⟩|exact .c .d|exact .c (.ptr rfl)|exact .Bh rfl rfl|refine .box ?_|exact .nil|refine .cons ?_ ?_|exact .d|exact .Ck (by decide) rfl rfl (fun _=>rfl)|fail)
 ·have d1:decide ((CV s slot c).kind=1)=false:=Aee k1;by_cases k3:(CV s slot c).kind=2
  ·have d3:decide ((CV s slot c).kind=2)=true:=Aed k3;by_cases hw:(G0 s).isSome=true/\c.kind=3
   ·have hw':Rz s c={s with wait:=s.wait-1}:=AeT hw;have d5:(G0 s).isSome=true:=hw.1;have d6:decide (c.kind=3)=true:=Aed hw.2;cases hh:r.heard with
    |false=>
     have e:CT s slot c r=({s with wait:=s.wait-1},zUp):=by rw[CT,AeS (fun h=>k1 h.1),AeS k1,AeT k3,AeS (by rw[hh];simp),hw']
     rw[e]
     repeat'(first|refine sC ?_|refine Aj rfl (by first|exact tt0|omega) ?_|(refine gC ?_;first|refine AJ [100,102] (Cg s slot c hck) (gk rfl) rfl (by(repeat'(first|exact .nil|refine .cons ?_ ?_|exact(KE (by simp) rfl .d (A9 (by simp) rfl rfl (fun _=>rfl)))))<;>fail) (by rfl) rfl (by rfl) rfl (by exact Aw) rfl ?_|refine AJ [100,102] (Cb s slot c) (gk rfl) rfl (by(repeat'(first|exact .nil|refine .cons ?_ ?_|exact(KE (by simp) rfl .d (A9 (by simp) rfl rfl (fun _=>rfl)))))<;>fail) (by rfl) rfl (by rfl) rfl (by exact Aw) rfl ?_)|(refine gN ?_;first|refine Ak (gk rfl) rfl rfl ?_)|refine Az rfl (by assumption) ?_|refine Ap (by kernel_rfl) ?_|(refine gD ?_;first|refine Ah rfl ?_|refine Ag rfl ?_|refine At rfl (by assumption) ?_)|fail)
     all_goals first
      |(exfalso;omega)
      |(exfalso;simp_all;done)
      |skip
     refine An (Bv (l:=[(6,.c (.ptr 6 0)),(7,.c (.ptr 7 0)),(8,AI 0)]) (b:=[(6,.box (Sta.cs {s with wait:=s.wait-1})),(7,.box zUp.cs)]) (fun n=>n) [102] hS ?_ ?_ rfl (by rfl)) (A8 Ab rfl rfl rfl rfl rfl rfl rfl rfl rfl rfl rfl rfl)
     all_goals repeat'(first|exact tt0|refine⟨⟨_,rfl,?_⟩,?_⟩|exact .c .d|exact .c (.ptr rfl)|exact .Bh rfl rfl|refine .box ?_|exact .nil|refine .cons ?_ ?_|exact .d|exact .Ck (by(simp;done)) rfl rfl (fun _=>rfl)|fail)
    |true=>
     have e:CT s slot c r=Ch {s with wait:=s.wait-1} (KC r):=by rw[CT,AeS (fun h=>k1 h.1),AeS k1,AeT k3,AeT hh,hw']
     have e3:=Mp {s with wait:=s.wait-1} (KC r);rw[e];rw[e3]
     repeat'(first|(refine gR ?_;first|refine Aj rfl (by first|exact tt0|omega) ?_|(refine gC ?_;first|refine AJ [100,102] (Cg s slot c hck) (gk rfl) rfl (by(repeat'(first|exact .nil|refine .cons ?_ ?_|exact(KE (by simp) rfl .d (A9 (by simp) rfl rfl (fun _=>rfl)))))<;>fail) (by rfl) rfl (by rfl) rfl (by exact Aw) rfl ?_|refine AJ [100,102] (Cb s slot c) (gk rfl) rfl (by(repeat'(first|exact .nil|refine .cons ?_ ?_|exact(KE (by simp) rfl .d (A9 (by simp) rfl rfl (fun _=>rfl)))))<;>fail) (by rfl) rfl (by rfl) rfl (by exact Aw) rfl ?_|refine B5 (nmL []) [] [100] (C1 {s with wait:=s.wait-1} slot c (KC r) hsn) (gk rfl) rfl rfl (by(repeat'(first|exact .nil|refine .cons ?_ ?_|exact .w (.c (.ptr rfl)) rfl|refine .r ?_|refine .of0 (.agg ?_)|exact .d))<;>fail) (by(repeat'(first|exact tt0|refine⟨⟨_,rfl,?_⟩,?_⟩|exact .Bc rfl Ai|refine .box ?_|exact .nil|refine .cons ?_ ?_|exact .d|exact .row rfl rfl))<;>fail) rfl rfl rfl (by rfl) rfl (by(simp only[AZ,wfL,AH,wfs,Ae,Ad];rfl)) rfl rfl rfl (by(simp only[F2,List.map_cons,List.map_nil,Blk.ren,C.ren,Bw,B0,BZ,gW,D8,nmL,Nat.reduceBEq,Bool.or_false,Bool.or_true,Bool.false_or,Bool.true_or,cond_true,cond_false,Nat.reduceMul,Nat.reduceAdd])<;>rfl) (by(simp only[AV.ren,AV.Ik,List.map_cons,List.map_nil,C.ren,gW,D8,nmL,Nat.reduceBEq,Bool.or_false,Bool.or_true,Bool.false_or,Bool.true_or,cond_true,cond_false,Nat.reduceMul,Nat.reduceAdd])<;>rfl) rfl ?_)|(refine gN ?_;first|refine Ak (gk rfl) rfl rfl ?_)|refine Az rfl (by assumption) ?_)|(refine gO ?_;first|refine C7 ?_|refine Ap (by kernel_rfl) ?_)|(refine gT ?_;first|refine BX ?_)|(refine gK ?_;first|refine Gg ?_)|refine BB ?_|refine Be ?_|refine Cp ?_|(show VC _ (.cond _ _ _) _ _;first|refine Ah rfl ?_|refine Ag rfl ?_|refine At rfl (by assumption) ?_)|refine IN ?_|refine BV ?_)
     all_goals first
      |(exfalso;omega)
      |(exfalso;simp_all;done)
      |skip
     refine An (Bv (l:=[(6,.c (.ptr 6 0)),(7,.c (.ptr 7 0)),(8,AI 0)]) (b:=[(6,.box ((Ch {s with wait:=s.wait-1} (KC r)).1.csR (.d (hds s.held)) (.d (sns (Ch {s with wait:=s.wait-1} (KC r)).1.seen)))),(7,.box (Ch {s with wait:=s.wait-1} (KC r)).2.cs)]) (fun n=>n) [104103] hS ?_ ?_ rfl (by rfl)) (A8 Ab rfl rfl rfl rfl rfl rfl rfl rfl rfl rfl rfl rfl)
     all_goals repeat'(first|exact tt0|refine⟨⟨_,rfl,?_⟩,?_⟩|exact .c .d|exact .c (.ptr rfl)|exact .Bh rfl rfl|refine .box ?_|exact .nil|refine .cons ?_ ?_|exact .d|exact .Ck (by decide) rfl rfl (fun _=>rfl)|fail)
   ·have hw':Rz s c=s:=AeS hw;cases d5:(G0 s).isSome with
    |false=>
     cases hh:r.heard with
     |false=>
      have e:CT s slot c r=(s,zUp):=by rw[CT,AeS (fun h=>k1 h.1),AeS k1,AeT k3,AeS (by rw[hh];simp),hw']
      rw[e]
      repeat'(first|refine sC ?_|refine Aj rfl (by exact tt0) ?_|(refine gC ?_;first|refine AJ [100,102] (Cg s slot c hck) (gk rfl) rfl (by(repeat'(first|exact .nil|refine .cons ?_ ?_|exact(KE (by simp) rfl .d (A9 (by simp) rfl rfl (fun _=>rfl)))))<;>fail) (by rfl) rfl (by rfl) rfl (by exact Aw) rfl ?_|refine AJ [100,102] (Cb s slot c) (gk rfl) rfl (by(repeat'(first|exact .nil|refine .cons ?_ ?_|exact(KE (by simp) rfl .d (A9 (by simp) rfl rfl (fun _=>rfl)))))<;>fail) (by rfl) rfl (by rfl) rfl (by exact Aw) rfl ?_)|(refine gN ?_;first|refine Ak (gk rfl) rfl rfl ?_)|refine Az rfl (by assumption) ?_|refine Ap (by kernel_rfl) ?_|(refine gD ?_;first|refine Ah rfl ?_|refine Ag rfl ?_|refine At rfl (by assumption) ?_)|fail)
      all_goals first
       |(exfalso;omega)
       |(exfalso;simp_all;done)
       |skip
      refine An (Bv (l:=[(6,.c (.ptr 6 0)),(7,.c (.ptr 7 0)),(8,AI 0)]) (b:=[(6,.box (Sta.cs s)),(7,.box zUp.cs)]) (fun n=>n) [102] hS ?_ ?_ rfl (by rfl)) (A8 Ab rfl rfl rfl rfl rfl rfl rfl rfl rfl rfl rfl rfl)
      all_goals repeat'(first|exact tt0|refine⟨⟨_,rfl,?_⟩,?_⟩|exact .c .d|exact .c (.ptr rfl)|exact .Bh rfl rfl|refine .box ?_|exact .nil|refine .cons ?_ ?_|exact .d|exact .Ck (by(simp;done)) rfl rfl (fun _=>rfl)|fail)
     |true=>
      have e:CT s slot c r=Ch s (KC r):=by rw[CT,AeS (fun h=>k1 h.1),AeS k1,AeT k3,AeT hh,hw']
      have e3:=Mp s (KC r);rw[e];rw[e3]
      repeat'(first|(refine gR ?_;first|refine Aj rfl (by exact tt0) ?_|(refine gC ?_;first|refine AJ [100,102] (Cg s slot c hck) (gk rfl) rfl (by(repeat'(first|exact .nil|refine .cons ?_ ?_|exact(KE (by simp) rfl .d (A9 (by simp) rfl rfl (fun _=>rfl)))))<;>fail) (by rfl) rfl (by rfl) rfl (by exact Aw) rfl ?_|refine AJ [100,102] (Cb s slot c) (gk rfl) rfl (by(repeat'(first|exact .nil|refine .cons ?_ ?_|exact(KE (by simp) rfl .d (A9 (by simp) rfl rfl (fun _=>rfl)))))<;>fail) (by rfl) rfl (by rfl) rfl (by exact Aw) rfl ?_|refine B5 (nmL []) [] [100] (C1 s slot c (KC r) hsn) (gk rfl) rfl rfl (by(repeat'(first|exact .nil|refine .cons ?_ ?_|exact .w (.c (.ptr rfl)) rfl|refine .r ?_|refine .of0 (.agg ?_)|exact .d))<;>fail) (by(repeat'(first|exact tt0|refine⟨⟨_,rfl,?_⟩,?_⟩|exact .Bc rfl Ai|refine .box ?_|exact .nil|refine .cons ?_ ?_|exact .d|exact .row rfl rfl))<;>fail) rfl rfl rfl (by rfl) rfl (by(simp only[AZ,wfL,AH,wfs,Ae,Ad];rfl)) rfl rfl rfl (by(simp only[F2,List.map_cons,List.map_nil,Blk.ren,C.ren,Bw,B0,BZ,gW,D8,nmL,Nat.reduceBEq,Bool.or_false,Bool.or_true,Bool.false_or,Bool.true_or,cond_true,cond_false,Nat.reduceMul,Nat.reduceAdd])<;>rfl) (by(simp only[AV.ren,AV.Ik,List.map_cons,List.map_nil,C.ren,gW,D8,nmL,Nat.reduceBEq,Bool.or_false,Bool.or_true,Bool.false_or,Bool.true_or,cond_true,cond_false,Nat.reduceMul,Nat.reduceAdd])<;>rfl) rfl ?_)|(refine gN ?_;first|refine Ak (gk rfl) rfl rfl ?_)|refine Az rfl (by assumption) ?_)|(refine gO ?_;first|refine C7 ?_|refine Ap (by kernel_rfl) ?_)|(refine gT ?_;first|refine BX ?_)|(refine gK ?_;first|refine Gg ?_)|refine BB ?_|refine Be ?_|refine Cp ?_|(show VC _ (.cond _ _ _) _ _;first|refine Ah rfl ?_|refine Ag rfl ?_|refine At rfl (by assumption) ?_)|refine IN ?_|refine BV ?_|refine Ex ?_)
      all_goals first
       |(exfalso;omega)
       |(exfalso;simp_all;done)
       |skip
      refine An (Bv (l:=[(6,.c (.ptr 6 0)),(7,.c (.ptr 7 0)),(8,AI 0)]) (b:=[(6,.box ((Ch s (KC r)).1.csR (.d (hds s.held)) (.d (sns (Ch s (KC r)).1.seen)))),(7,.box (Ch s (KC r)).2.cs)]) (fun n=>n) [104103] hS ?_ ?_ rfl (by rfl)) (A8 Ab rfl rfl rfl rfl rfl rfl rfl rfl rfl rfl rfl rfl)
      all_goals repeat'(first|exact tt0|refine⟨⟨_,rfl,?_⟩,?_⟩|exact .c .d|exact .c (.ptr rfl)|exact .Bh rfl rfl|refine .box ?_|exact .nil|refine .cons ?_ ?_|exact .d|exact .Ck (by decide) rfl rfl (fun _=>rfl)|fail)
    |true=>
     have d6:decide (c.kind=3)=false:=Aee fun h=>hw ⟨d5,h⟩
     cases hh:r.heard with
     |false=>
      have e:CT s slot c r=(s,zUp):=by rw[CT,AeS (fun h=>k1 h.1),AeS k1,AeT k3,AeS (by rw[hh];simp),hw']
      rw[e]
      repeat'(first|refine sC ?_|refine Aj rfl (by exact tt0) ?_|(refine gC ?_;first|refine AJ [100,102] (Cg s slot c hck) (gk rfl) rfl (by(repeat'(first|exact .nil|refine .cons ?_ ?_|exact(KE (by simp) rfl .d (A9 (by simp) rfl rfl (fun _=>rfl)))))<;>fail) (by rfl) rfl (by rfl) rfl (by exact Aw) rfl ?_|refine AJ [100,102] (Cb s slot c) (gk rfl) rfl (by(repeat'(first|exact .nil|refine .cons ?_ ?_|exact(KE (by simp) rfl .d (A9 (by simp) rfl rfl (fun _=>rfl)))))<;>fail) (by rfl) rfl (by rfl) rfl (by exact Aw) rfl ?_)|(refine gN ?_;first|refine Ak (gk rfl) rfl rfl ?_)|refine Az rfl (by assumption) ?_|refine Ap (by kernel_rfl) ?_|(refine gD ?_;first|refine Ah rfl ?_|refine Ag rfl ?_|refine At rfl (by assumption) ?_)|fail)
      all_goals first
       |(exfalso;omega)
       |(exfalso;simp_all;done)
       |skip
      refine An (Bv (l:=[(6,.c (.ptr 6 0)),(7,.c (.ptr 7 0)),(8,AI 0)]) (b:=[(6,.box (Sta.cs s)),(7,.box zUp.cs)]) (fun n=>n) [102] hS ?_ ?_ rfl (by rfl)) (A8 Ab rfl rfl rfl rfl rfl rfl rfl rfl rfl rfl rfl rfl)
      all_goals repeat'(first|exact tt0|refine⟨⟨_,rfl,?_⟩,?_⟩|exact .c .d|exact .c (.ptr rfl)|exact .Bh rfl rfl|refine .box ?_|exact .nil|refine .cons ?_ ?_|exact .d|exact .Ck (by(simp;done)) rfl rfl (fun _=>rfl)|fail)
     |true=>
      have e:CT s slot c r=Ch s (KC r):=by rw[CT,AeS (fun h=>k1 h.1),AeS k1,AeT k3,AeT hh,hw']
      have e3:=Mp s (KC r);rw[e];rw[e3]
      repeat'(first|(refine gR ?_;first|refine Aj rfl (by exact tt0) ?_|(refine gC ?_;first|refine AJ [100,102] (Cg s slot c hck) (gk rfl) rfl (by(repeat'(first|exact .nil|refine .cons ?_ ?_|exact(KE (by simp) rfl .d (A9 (by simp) rfl rfl (fun _=>rfl)))))<;>fail) (by rfl) rfl (by rfl) rfl (by exact Aw) rfl ?_|refine AJ [100,102] (Cb s slot c) (gk rfl) rfl (by(repeat'(first|exact .nil|refine .cons ?_ ?_|exact(KE (by simp) rfl .d (A9 (by simp) rfl rfl (fun _=>rfl)))))<;>fail) (by rfl) rfl (by rfl) rfl (by exact Aw) rfl ?_|refine B5 (nmL []) [] [100] (C1 s slot c (KC r) hsn) (gk rfl) rfl rfl (by(repeat'(first|exact .nil|refine .cons ?_ ?_|exact .w (.c (.ptr rfl)) rfl|refine .r ?_|refine .of0 (.agg ?_)|exact .d))<;>fail) (by(repeat'(first|exact tt0|refine⟨⟨_,rfl,?_⟩,?_⟩|exact .Bc rfl Ai|refine .box ?_|exact .nil|refine .cons ?_ ?_|exact .d|exact .row rfl rfl))<;>fail) rfl rfl rfl (by rfl) rfl (by(simp only[AZ,wfL,AH,wfs,Ae,Ad];rfl)) rfl rfl rfl (by(simp only[F2,List.map_cons,List.map_nil,Blk.ren,C.ren,Bw,B0,BZ,gW,D8,nmL,Nat.reduceBEq,Bool.or_false,Bool.or_true,Bool.false_or,Bool.true_or,cond_true,cond_false,Nat.reduceMul,Nat.reduceAdd])<;>rfl) (by(simp only[AV.ren,AV.Ik,List.map_cons,List.map_nil,C.ren,gW,D8,nmL,Nat.reduceBEq,Bool.or_false,Bool.or_true,Bool.false_or,Bool.true_or,cond_true,cond_false,Nat.reduceMul,Nat.reduceAdd])<;>rfl) rfl ?_)|(refine gN ?_;first|refine Ak (gk rfl) rfl rfl ?_)|refine Az rfl (by assumption) ?_)|(refine gO ?_;first|refine C7 ?_|refine Ap (by kernel_rfl) ?_)|(refine gT ?_;first|refine BX ?_)|(refine gK ?_;first|refine Gg ?_)|refine BB ?_|refine Be ?_|refine Cp ?_|(show VC _ (.cond _ _ _) _ _;first|refine Ah rfl ?_|refine Ag rfl ?_|refine At rfl (by assumption) ?_)|refine IN ?_|refine BV ?_|refine Ex ?_)
      all_goals first
       |(exfalso;omega)
       |(exfalso;simp_all;done)
       |skip
      refine An (Bv (l:=[(6,.c (.ptr 6 0)),(7,.c (.ptr 7 0)),(8,AI 0)]) (b:=[(6,.box ((Ch s (KC r)).1.csR (.d (hds s.held)) (.d (sns (Ch s (KC r)).1.seen)))),(7,.box (Ch s (KC r)).2.cs)]) (fun n=>n) [104103] hS ?_ ?_ rfl (by rfl)) (A8 Ab rfl rfl rfl rfl rfl rfl rfl rfl rfl rfl rfl rfl)
      all_goals repeat'(first|exact tt0|refine⟨⟨_,rfl,?_⟩,?_⟩|exact .c .d|exact .c (.ptr rfl)|exact .Bh rfl rfl|refine .box ?_|exact .nil|refine .cons ?_ ?_|exact .d|exact .Ck (by decide) rfl rfl (fun _=>rfl)|fail)
  ·have d3:decide ((CV s slot c).kind=2)=false:=Aee k3;have e:CT s slot c r=(s,zUp):=by rw[CT,AeS (fun h=>k1 h.1),AeS k1,AeS k3]
   rw[e]
   repeat'(first|refine sC ?_|refine Aj rfl (by exact tt0) ?_|(refine gC ?_;first|refine AJ [100,102] (Cg s slot c hck) (gk rfl) rfl (by(repeat'(first|exact .nil|refine .cons ?_ ?_|exact(KE (by simp) rfl .d (A9 (by simp) rfl rfl (fun _=>rfl)))))<;>fail) (by rfl) rfl (by rfl) rfl (by exact Aw) rfl ?_)|(refine gN ?_;first|refine Ak (gk rfl) rfl rfl ?_)|refine Az rfl (by assumption) ?_|refine Ap (by kernel_rfl) ?_|(refine gD ?_;first|refine Ag rfl ?_|refine At rfl (by assumption) ?_)|fail)
   refine An (Bv (l:=[(6,.c (.ptr 6 0)),(7,.c (.ptr 7 0)),(8,AI 0)]) (b:=[(6,.box s.cs),(7,.box zUp.cs)]) (fun n=>n) [102] hS ?_ ?_ rfl (by rfl)) (A8 Ab rfl rfl rfl rfl rfl rfl rfl rfl rfl rfl rfl rfl)
   all_goals repeat'(first|exact tt0|refine⟨⟨_,rfl,?_⟩,?_⟩|exact .c .d|exact .c (.ptr rfl)|exact .Bh rfl rfl|refine .box ?_|exact .nil|refine .cons ?_ ?_|exact .d|exact .Ck (by(simp;done)) rfl rfl (fun _=>rfl)|fail)
end Go.Proofs
end
section
namespace Go.Proofs.M
open Go Go.Sx Go.Proofs Go.Proofs.T Go.Proofs.Q
open Go.Proofs.P (Nb nbs Rk rkA rkErr checkNb hearM countM forgetM select')
open Go.Proofs.R (startM advM)
set_option maxRecDepth 4000
attribute [local irreducible] VR VC thenQ blockQ retL
structure Ar where
 origin:Int
 id:Int
 slot:Int
 deriving DecidableEq,Inhabited
def Ar.enc (x:Ar):List D:=[.int .i64 x.origin,.int .i64 x.id,.int .i64 x.slot]
def Ar.cs (x:Ar):List C:=[.d (.int .i64 x.origin),.d (.int .i64 x.id),.d (.int .i64 x.slot)]
abbrev arA (x:Ar):AV:=.agg x.cs
abbrev ars (l:List Ar):D:=IS Ar.enc 3 l
theorem Adu {x y:Ar} (h:[SV.int IntKind.i64 x.slot,SV.int IntKind.i64 x.id,SV.int IntKind.i64 x.origin].reverse=[SV.int IntKind.i64 y.slot,SV.int IntKind.i64 y.id,SV.int IntKind.i64 y.origin].reverse):x=y:=by
 have h:=List.reverse_inj.1 h;cases x;cases y;simp only[List.cons.injEq,SV.int.injEq,SV.bool.injEq,SV.str.injEq,true_and,and_true] at h;obtain⟨rfl,rfl,rfl⟩:=h
 rfl
instance:Ij Ar.enc:=⟨fun _=>rfl⟩
structure Ld where
 node:Int
 slot:Int
 deriving DecidableEq,Inhabited
def Ld.enc (x:Ld):List D:=[.int .i64 x.node,.int .i64 x.slot]
def Ld.cs (x:Ld):List C:=[.d (.int .i64 x.node),.d (.int .i64 x.slot)]
abbrev ldA (x:Ld):AV:=.agg x.cs
abbrev lds (l:List Ld):D:=IS Ld.enc 2 l
instance:Ij Ld.enc:=⟨fun _=>rfl⟩
structure Si where
 src:Int
 dst:Int
 first:Int
 til:Int
 deriving DecidableEq,Inhabited
def Si.enc (x:Si):List D:=[.int .i64 x.src,.int .i64 x.dst,.int .i64 x.first,.int .i64 x.til]
def Si.cs (x:Si):List C:=[.d (.int .i64 x.src),.d (.int .i64 x.dst),.d (.int .i64 x.first),.d (.int .i64 x.til)]
abbrev siA (x:Si):AV:=.agg x.cs
abbrev sis (l:List Si):D:=IS Si.enc 4 l
instance:Ij Si.enc:=⟨fun _=>rfl⟩
structure Sp where
 slot:Int
 offset:Int
 deriving DecidableEq,Inhabited
def Sp.enc (x:Sp):List D:=[.int .i64 x.slot,.int .i64 x.offset]
def Sp.cs (x:Sp):List C:=[.d (.int .i64 x.slot),.d (.int .i64 x.offset)]
abbrev spA (x:Sp):AV:=.agg x.cs
abbrev sps (l:List Sp):D:=IS Sp.enc 2 l
theorem AcV {x y:Sp} (h:[SV.int IntKind.i64 x.offset,SV.int IntKind.i64 x.slot].reverse=[SV.int IntKind.i64 y.offset,SV.int IntKind.i64 y.slot].reverse):x=y:=by
 have h:=List.reverse_inj.1 h;cases x;cases y;simp only[List.cons.injEq,SV.int.injEq,SV.bool.injEq,SV.str.injEq,true_and,and_true] at h;obtain⟨rfl,rfl⟩:=h
 rfl
instance:Ij Sp.enc:=⟨fun _=>rfl⟩
structure MN where
 st:Sta
 rk:Rk
 nb:List Nb
 next:Int
 deriving Inhabited
def MN.cs (x:MN):List C:=[.d (.int .i64 x.st.tb.node),.d (.int .i64 x.st.tb.len),.d (tcs x.st.tb.cells),.d (.int .i64 x.st.qu.Bk),.d (pks x.st.qu.Af),.d (hds x.st.held),.d (sns x.st.seen),
 .d (.int .i64 x.st.list),.d (.int .i64 x.st.seq),.d (.int .i64 x.st.Bm),.d (.int .i64 x.st.tries),.d (.int .i64 x.st.back),.d (.int .i64 x.st.wait),.d (.int .i64 x.st.CP),
 .d (.int .i64 x.rk.node),.d (.int .i64 x.rk.epoch),.d (.int .i64 x.rk.parent),.d (.int .i64 x.rk.heard),.d (.int .i64 x.rk.rank),.d (.int .i64 x.rk.least),.d (nbs x.nb),.d (.int .i64 x.next)]
def MN.enc (x:MN):List D:=[.int .i64 x.st.tb.node,.int .i64 x.st.tb.len,tcs x.st.tb.cells,.int .i64 x.st.qu.Bk,pks x.st.qu.Af,hds x.st.held,sns x.st.seen,
 .int .i64 x.st.list,.int .i64 x.st.seq,.int .i64 x.st.Bm,.int .i64 x.st.tries,.int .i64 x.st.back,.int .i64 x.st.wait,.int .i64 x.st.CP,
 .int .i64 x.rk.node,.int .i64 x.rk.epoch,.int .i64 x.rk.parent,.int .i64 x.rk.heard,.int .i64 x.rk.rank,.int .i64 x.rk.least,nbs x.nb,.int .i64 x.next]
abbrev mnA (x:MN):AV:=.agg x.cs
abbrev mns (l:List MN):D:=IS MN.enc 22 l
structure Me where
 nodes:List MN
 slot:Int
 turns:Int
 arr:List Ar
 deriving Inhabited
def Me.cs (m:Me):List C:=[.d (mns m.nodes),.d (.int .i64 m.slot),.d (.int .i64 m.turns),.d (ars m.arr)]
def Me.enc (m:Me):List D:=[mns m.nodes,.int .i64 m.slot,.int .i64 m.turns,ars m.arr]
abbrev meA (m:Me):AV:=.agg m.cs
structure Wk where
 nd:MN
 node:Int
 ac:Ac
 bc:Bool
 rs:Rs
 up:Up
 deriving Inhabited
def Wk.cs (w:Wk):List C:=[.d (.int .i64 w.nd.st.tb.node),.d (.int .i64 w.nd.st.tb.len),.d (tcs w.nd.st.tb.cells),.d (.int .i64 w.nd.st.qu.Bk),.d (pks w.nd.st.qu.Af),.d (hds w.nd.st.held),.d (sns w.nd.st.seen),
 .d (.int .i64 w.nd.st.list),.d (.int .i64 w.nd.st.seq),.d (.int .i64 w.nd.st.Bm),.d (.int .i64 w.nd.st.tries),.d (.int .i64 w.nd.st.back),.d (.int .i64 w.nd.st.wait),.d (.int .i64 w.nd.st.CP),
 .d (.int .i64 w.nd.rk.node),.d (.int .i64 w.nd.rk.epoch),.d (.int .i64 w.nd.rk.parent),.d (.int .i64 w.nd.rk.heard),.d (.int .i64 w.nd.rk.rank),.d (.int .i64 w.nd.rk.least),.d (nbs w.nd.nb),.d (.int .i64 w.nd.next),
 .d (.int .i64 w.node),
 .d (.int .i64 w.ac.kind),.d (.int .i64 w.ac.offset),.d (.int .i64 w.ac.B1),.d (.int .i64 w.ac.source),.d (.int .i64 w.ac.target),.d (.int .i64 w.ac.list),.d (.int .i64 w.ac.seq),.d (.int .i64 w.ac.Ca),.d (.int .i64 w.ac.number),.d (.int .i64 w.ac.err),.d (.int .i64 w.ac.slot),.d (.int .i64 w.ac.rank),.d (.int .i64 w.ac.epoch),.d (.str w.ac.data),
 .d (.bool w.bc),
 .d (.bool w.rs.AQ),.d (.bool w.rs.heard),.d (.int .i64 w.rs.B1),.d (.int .i64 w.rs.source),.d (.int .i64 w.rs.target),.d (.int .i64 w.rs.list),.d (.int .i64 w.rs.seq),.d (.int .i64 w.rs.Ca),.d (.int .i64 w.rs.number),.d (.int .i64 w.rs.err),.d (.int .i64 w.rs.slot),.d (.int .i64 w.rs.rank),.d (.int .i64 w.rs.epoch),.d (.str w.rs.data),.d (.int .i64 w.rs.error),
 .d (.bool w.up.some),.d (.bool w.up.new),.d (.int .i64 w.up.B1),.d (.int .i64 w.up.source),.d (.int .i64 w.up.target),.d (.int .i64 w.up.list),.d (.int .i64 w.up.seq),.d (.int .i64 w.up.Ca),.d (.int .i64 w.up.number),.d (.int .i64 w.up.err),.d (.int .i64 w.up.slot),.d (.int .i64 w.up.rank),.d (.int .i64 w.up.epoch),.d (.str w.up.data)]
def zRs:Rs:=⟨false,false,0,0,0,0,0,0,0,0,0,0,0,⟨#[]⟩,0⟩
def noM:Me:=⟨[],0,0,[]⟩
def G4 (t:Tb):List Sp:=(t.cells.filter fun c=>decide (c.kind=3)).map fun c=>⟨c.slot,c.offset⟩
def FR (m:Me) (i:Nat):Bool:=
 decide (AT (m.nodes.getD i default).st=0/\(m.nodes.getD i default).st.tb.node=i/\(m.nodes.getD i default).st.tb.len=(m.nodes.getD 0 default).st.tb.len/\G4 (m.nodes.getD i default).st.tb=G4 (m.nodes.getD 0 default).st.tb)
 && decide (rkErr (m.nodes.getD i default).rk=0/\(m.nodes.getD i default).rk.node=i/\(m.nodes.getD i default).rk.parent<m.nodes.length/\checkNb (m.nodes.getD i default).nb=0)
 && !((m.nodes.getD i default).nb.any fun n=>decide ((m.nodes.length:Int)<=n.node))&&decide (0<=(m.nodes.getD i default).next/\(m.nodes.getD i default).next<=65535)
def Cj (m:Me):Int:=
 if m.nodes.length<1\/32<m.nodes.length\/m.slot<0\/16384<m.slot\/m.turns<1\/32<m.turns\/4096<m.arr.length then 1
 else if(List.range m.nodes.length).any (fun i=>!FR m i) then 1 else 0
def G7 (l:List Si) (src dst slot:Int):Bool:=!(l.any fun x=>decide (x.src=src)&&decide (x.dst=dst)&&decide (x.first<=slot)&&decide (slot<x.til))
def Tg (a:Ac):Fr:=⟨a.B1,a.source,a.target,a.list,a.seq,a.Ca,a.number,a.err,a.slot,a.rank,a.epoch,a.data⟩
def AcZ (r:Rs):Fr:=⟨r.B1,r.source,r.target,r.list,r.seq,r.Ca,r.number,r.err,r.slot,r.rank,r.epoch,r.data⟩
def Adg (kind offset:Int) (f:Fr):Ac:=⟨kind,offset,f.kind,f.source,f.target,f.list,f.seq,f.Ca,f.number,f.err,f.slot,f.rank,f.epoch,f.data⟩
def X0 (f:Fr):Rs:=⟨false,true,f.kind,f.source,f.target,f.list,f.seq,f.Ca,f.number,f.err,f.slot,f.rank,f.epoch,f.data,0⟩
def Mw (slot:Int) (x:MN):MN:=if(Cy x.st slot).2.2=0 then{x with st:=(Cy x.st slot).1} else x
def Hr (slot:Int) (x:MN) (data:ByteArray):MN:=
 if x.rk.parent<0 then x
 else if(Jj x.st ⟨x.next,x.rk.parent,1,slot,256,data⟩).2.2=0 then{x with st:=(Jj x.st ⟨x.next,x.rk.parent,1,slot,256,data⟩).1,next:=(x.next+1) % 65536} else x
def Xk (i id:Int):ByteArray:=mkS [i % 256,id/256 % 256,id % 256]
def Eh (slot i:Int):List Ld->MN->MN
 |[],x=>x
 |l :: ls,x=>Eh slot i ls (if l.slot=slot/\l.node=i/\i≠0 then Hr slot x (Xk i x.next) else x)
def CO (t:Tb):List TC:=t.cells.filter fun c=>decide (c.kind=3)
def FP (t:Tb) (q:Int):Nat:=((CO t).filter fun c=>decide (c.slot<q)).length
def N9 (t:Tb) (q:Int):Bool:=(CO t).any fun c=>decide (c.slot=q)
def Hh (t:Tb) (slot turns:Int):Int×Bool:=
 if Ci t≠0\/slot<0\/turns<1\/32<turns then(0,false)
 else if N9 t (slot % t.len)=false then(0,false)
 else((slot/t.len % turns*(CO t).length+FP t (slot % t.len)) % turns,true)
def Te (t:Tb) (slot turns:Int):Bool:=(atM t slot).2&&(Hh t slot turns).2&&decide ((atM t slot).1.kind=3)&&decide ((Hh t slot turns).1=t.node % turns)
def bcF (r:Rk) (slot:Int):Fr:=⟨3,r.node,-1,0,0,0,0,0,slot,r.rank,r.epoch,Zr false⟩
def Fb (slot turns:Int) (x:MN):MN×Ac×Bool:=
 if Te x.st.tb slot turns=true/\(advM x.rk).2.2.2=0 then({x with rk:=(advM x.rk).1},Adg 1 (atM x.st.tb slot).1.offset (bcF x.rk slot),true)
 else(x,(Ru x.st slot).1,false)
def DS (slot:Int) (w:Wk):Wk:=if w.bc=true then w else if(ES w.nd.st slot w.rs).2.2=0 then{w with nd:={w.nd with st:=(ES w.nd.st slot w.rs).1},up:=(ES w.nd.st slot w.rs).2.1} else w
def EC (slot:Int) (w:Wk):Wk:=if w.rs.heard=true/\w.rs.B1=3/\(hearM w.nd.nb w.rs.source w.rs.epoch w.rs.rank slot).2=0 then{w with nd:={w.nd with nb:=(hearM w.nd.nb w.rs.source w.rs.epoch w.rs.rank slot).1}} else w
def Gj (w:Wk):Wk:=if w.ac.kind=1/\w.ac.B1=4/\0<=w.ac.target/\(countM w.nd.nb w.ac.target w.rs.AQ).2=0 then{w with nd:={w.nd with nb:=(countM w.nd.nb w.ac.target w.rs.AQ).1}} else w
def S7 (data:ByteArray) (slot:Int):Ar:=⟨bAt data 0,256*bAt data 1+bAt data 2,slot⟩
def Es (l:List Ar) (data:ByteArray) (slot:Int):List Ar:=
 if(l.any fun x=>decide (x.origin=(S7 data slot).origin)&&decide (x.id=(S7 data slot).id))=true then l else if 4096<=l.length then l else l++[S7 data slot]
def Ol (w:Wk):Bool:=w.up.new&&decide (w.up.B1=4)&&decide (w.up.target=w.node)&&decide (w.up.data.size=3)
def HA (slot:Int) (arr:List Ar) (w:Wk):List Ar×Wk:=
 if Ol w=false then(arr,w) else if w.node≠0 then(arr,{w with nd:=Hr slot w.nd w.up.data}) else(Es arr w.up.data slot,w)
def Eg (old new:Int) (p:Pk):Pk:=if p.to=old then{p with to:=new} else p
def E9 (slot:Int) (x:MN):MN:=
 if(select' (forgetM x.nb slot 256) x.rk 64).2.2≠0 then{x with nb:=forgetM x.nb slot 256}
 else if(select' (forgetM x.nb slot 256) x.rk 64).2.1=false\/(select' (forgetM x.nb slot 256) x.rk 64).1.parent<0\/x.rk.parent<0 then{x with nb:=forgetM x.nb slot 256,rk:=(select' (forgetM x.nb slot 256) x.rk 64).1}
 else{x with nb:=forgetM x.nb slot 256,rk:=(select' (forgetM x.nb slot 256) x.rk 64).1,st:={x.st with qu:=⟨x.st.qu.Bk,x.st.qu.Af.map (Eg x.rk.parent (select' (forgetM x.nb slot 256) x.rk 64).1.parent)⟩}}
def Aaw (x:MN) (i:Nat):Wk:=⟨x,i,zAc,false,zRs,zUp⟩
def ZT (slot:Int) (arr:List Ar) (w:Wk):List Ar×Wk:=(arr,{w with nd:=Mw slot w.nd})
def U5 (slot:Int) (loads:List Ld) (arr:List Ar) (w:Wk):List Ar×Wk:=(arr,{w with nd:=Eh slot w.node loads w.nd})
def X1 (slot turns:Int) (arr:List Ar) (w:Wk):List Ar×Wk:=(arr,{w with nd:=(Fb slot turns w.nd).1,ac:=(Fb slot turns w.nd).2.1,bc:=w.bc||(Fb slot turns w.nd).2.2})
def SO (slot:Int) (arr:List Ar) (w:Wk):List Ar×Wk:=(arr,DS slot w)
def Xb (slot:Int) (arr:List Ar) (w:Wk):List Ar×Wk:=(arr,Gj (EC slot w))
def Kp (slot:Int) (arr:List Ar) (w:Wk):List Ar×Wk:=(arr,{w with nd:=E9 slot w.nd})
def Bs (F:List Ar->Wk->List Ar×Wk):List Ar->List Wk->List Ar×List Wk
 |arr,[]=>(arr,[])
 |arr,w :: l=>((Bs F (F arr w).1 l).1,(F arr w).2 :: (Bs F (F arr w).1 l).2)
def Bt (sil:List Si) (slot:Int) (X:List Wk) (i:Nat):List Nat:=
 (List.range X.length).filter fun j=>decide (j≠i)&&decide ((X.getD j default).ac.kind=1)&&decide ((X.getD j default).ac.offset=(X.getD i default).ac.offset)&&G7 sil (X.getD j default).node (X.getD i default).node slot
def DA (sil:List Si) (slot:Int) (X:List Wk) (i j:Nat):List Wk:=
 if(X.getD j default).ac.target=(X.getD i default).node/\G7 sil (X.getD i default).node (X.getD j default).node slot=true then
  (X.set i {X.getD i default with rs:=X0 (Tg (X.getD j default).ac)}).set j {X.getD j default with rs:={(X.getD j default).rs with AQ:=true}}
 else X.set i {X.getD i default with rs:=X0 (Tg (X.getD j default).ac)}
def Cf (sil:List Si) (slot:Int) (X:List Wk) (i:Nat):List Wk:=
 if(X.getD i default).ac.kind≠2 then X else match Bt sil slot X i with
  |[j]=>DA sil slot X i j
  |_=>X
def DQ (sil:List Si) (slot:Int) (X:List Wk):Nat->List Wk
 |0=>X
 |k+1=>Cf sil slot (DQ sil slot X k) k
def C6 (m:Me):List Wk:=(List.range m.nodes.length).map fun i=>Aaw (m.nodes.getD i default) i
def FT (m:Me) (loads:List Ld):List Wk:=(Bs (X1 m.slot m.turns) [] (Bs (U5 m.slot loads) [] (Bs (ZT m.slot) [] (C6 m)).2).2).2
def Gh (m:Me) (loads:List Ld) (sil:List Si):List Wk:=DQ sil m.slot (FT m loads) m.nodes.length
def Fg (m:Me) (loads:List Ld) (sil:List Si):List Ar×List Wk:=
 Bs (HA m.slot) m.arr (Bs (Xb m.slot) [] (Bs (SO m.slot) [] (Gh m loads sil)).2).2
def GX (m:Me) (loads:List Ld) (sil:List Si):Me:=
 ⟨((Bs (Kp m.slot) [] (Fg m loads sil).2).2).map (·.nd),m.slot+1,m.turns,(Fg m loads sil).1⟩
def C4 (m:Me) (loads:List Ld) (sil:List Si):Int:=if Cj m≠0 then 1 else if 1024<loads.length\/1024<sil.length then 8 else 0
def RM (m:Me) (loads:List Ld) (sil:List Si):Me×Int:=if C4 m loads sil≠0 then(noM,C4 m loads sil) else if 16384<=m.slot then(noM,21) else(GX m loads sil,0)
def runN (loads:List Ld) (sil:List Si):Nat->Me->Me
 |0,m=>m
 |k+1,m=>GX (runN loads sil k m) loads sil
def RS (m:Me) (CN:Int) (loads:List Ld) (sil:List Si):Me×Int:=
 if C4 m loads sil≠0 then(noM,C4 m loads sil) else if CN<0\/4096<CN then(noM,2) else if 16384<m.slot+CN then(noM,21) else(runN loads sil CN.toNat m,0)
def HP (m:Me):List Int:=if Cj m≠0 then[] else m.nodes.map fun x=>x.rk.parent
def Zy (turns:Int):List Tb->Nat->Option (List MN)
 |[],_=>some []
 |t :: ts,i=>if(OX t 16 i).2≠0\/(startM i).2≠0 then none else match Zy turns ts (i+1) with
  |none=>none
  |some l=>some (⟨(OX t 16 i).1,(startM i).1,[],0⟩ :: l)
def Gk (tables:List Tb) (turns:Int):Me×Int:=match Zy turns tables 0 with
 |none=>(noM,1)
 |some l=>if Cj ⟨l,0,turns,[]⟩≠0 then(noM,1) else(⟨l,0,turns,[]⟩,0)
end Go.Proofs.M
end
section
namespace Go.Proofs.M
open Go Go.Sx Go.Proofs Go.Proofs.T Go.Proofs.Q
set_option maxRecDepth 4000
attribute [local irreducible] VR VC thenQ blockQ retL
abbrev Jn (p:Si->Bool):List DV->DV->Prop:=fun ds r=>∃x:Si,ds=[.agg x.enc]/\r=.d (.bool (p x))
theorem ZI (l:List Si) (p:Si->Bool):FnS Tryz.prog 85 [AD (sis l),.clo (Jn p)] [] (AI (oI (Fl l p))) []:=by
 refine fb Tryz.func85 (by kernel_rfl) rfl Tryz.ntmps85 Tryz.results85 rfl rfl rfl rfl fun E hS=>?_
 refine BP (t:=0) rfl fun hb=>?_
 repeat'(first|refine sC ?_|refine Aj rfl (by exact tt0) ?_|fail)
 refine AA (ι:=Nat) (fun k=>AS [(0,AD (sis l)),(1,.clo (Jn p)),(7,AI l.length),(8,AI k)] []) (fun k=>k<=l.length/\∀i,i<k->p (l.getD i default)=false) (fun k=>l.length-k) 0 ⟨AeV _,fun i hi=>absurd hi (AeQ _)⟩ ?_ ?_
 ·exact B4 ⟨rfl,rfl,rfl,rfl,trivial⟩ trivial rfl
 ·intro k hk
  repeat'(first|refine sC ?_|refine Aj rfl (by first|exact tt0|omega) ?_|(refine gC ?_;first|refine EV (⟨_,rfl,rfl⟩) (gk rfl) rfl rfl rfl rfl ?_)|(refine gI ?_;first|refine Aq (gk rfl) rfl rfl rfl rfl rfl (by omega) rfl ?_)|(refine gD ?_;first|(refine Ay rfl ?_ ?_<;>intro h<;>have hq:=h<;>(try simp only[hqs] at hq)))|fail)
  ·refine AG Ab rfl ?_;rw[Er hk.2 (by omega) h];rfl
  ·refine⟨k+1,⟨by omega,fun i hi=>?_⟩,by omega,B4 ⟨rfl,rfl,rfl,rfl,trivial⟩ trivial rfl⟩;by_cases hik:i<k
   ·exact hk.2 i hik
   ·have:i=k:=by omega
    subst this;exact h
  ·refine AG Ab rfl ?_;have:k=l.length:=by omega
   subst this;rw[DI hk.2];rfl
theorem Ow (l:List Si) (p:Si->Bool):FnS Tryz.prog 52 [AD (sis l),.clo (Jn p)] [] (AB (l.any p)) []:=by
 refine fb Tryz.func52 (by kernel_rfl) rfl Tryz.ntmps52 Tryz.results52 rfl rfl rfl rfl fun E hS=>?_
 repeat'(first|refine sB ?_|refine Aj rfl (by exact tt0) ?_|(refine gC ?_;first|refine AJ [] (ZI l p) (gk rfl) rfl (by(repeat'(first|exact .nil|refine .cons ?_ ?_|exact .of0 (.c .d)|exact .clo))<;>fail) (by rfl) rfl (by rfl) rfl (by rfl) rfl ?_)|fail)
 all_goals exact As Ab rfl (E1 _ _).symm
def Ach (a b s:Int) (x:Si):Bool:=decide (x.src=a)&&decide (x.dst=b)&&decide (x.first<=s)&&decide (s<x.til)
theorem PT (x:Si) (a b s:Int):FnS Tryz.prog 53 [siA x,.ep (fun _=>.int .i64 a) 1,.ep (fun _=>.int .i64 b) 1,.ep (fun _=>.int .i64 s) 1] [] (AB (Ach a b s x)) []:=by
 refine fb Tryz.func53 (by kernel_rfl) rfl Tryz.ntmps53 Tryz.results53 rfl rfl rfl rfl fun E hS=>?_
 repeat'(first|refine sB ?_|refine Aj rfl (by exact tt0) ?_|(refine Ax rfl ?_ ?_<;>intro h<;>have hq:=h<;>(try simp only[hqs] at hq))|fail)
 all_goals(refine As Ab rfl ?_;unfold Ach;first|(simp_all;done)|(simp_all;omega))
theorem T6 {cs:List C} {x:D} (h:cs=[.d x]):∀j,j<1->cs[0+j]?=some (.d ((fun _=>x) j)):=fun j hj=>by
 have:j=0:=by omega
 subst this;subst h;rfl
theorem Sz {σ:St} {a b s:Int} {n1 n2 n3:Nat} {L:List Nat} (h1:n1∈L) (h2:n2∈L) (h3:n3∈L) (b1:σ (.b n1)=some (.k (.box [.d (.int .i64 a)]))) (b2:σ (.b n2)=some (.k (.box [.d (.int .i64 b)]))) (b3:σ (.b n3)=some (.k (.box [.d (.int .i64 s)]))):
  AR Tryz.prog σ L (.fnc 53 [.ptr n1 0,.ptr n2 0,.ptr n3 0]) (.clo (Jn (Ach a b s))):=
 .fnc (eps:=[.ep (fun _=>.int .i64 a) 1,.ep (fun _=>.int .i64 b) 1,.ep (fun _=>.int .i64 s) 1]) (.cons (.ptr h1 b1 (T6 rfl)) (.cons (.ptr h2 b2 (T6 rfl)) (.cons (.ptr h3 b3 (T6 rfl)) .nil))) (enters_of Tryz.func53 (by kernel_rfl) rfl)
  (by rintro _ _ ⟨x,rfl,rfl⟩;exact⟨rfl,PT x a b s⟩)
theorem ID (l:List Si) (a b s:Int):FnS Tryz.prog 21 [AD (sis l),AI a,AI b,AI s] [] (AB (G7 l a b s)) []:=by
 refine fb Tryz.func21 (by kernel_rfl) rfl Tryz.ntmps21 Tryz.results21 rfl rfl rfl rfl fun E hS=>?_
 repeat'(first|refine sB ?_|refine Aj rfl (by exact tt0) ?_|(refine gC ?_;first|refine AJ [5,6,7] (Ow l (Ach a b s)) (gk rfl) rfl (by(repeat'(first|exact .nil|refine .cons ?_ ?_|exact .of0 (.c .d)|exact(Sz (by simp) (by simp) (by simp) rfl rfl rfl)))<;>fail) (by rfl) rfl (by rfl) rfl (by rfl) rfl ?_)|fail)
 all_goals exact As Ab rfl rfl
end Go.Proofs.M
end
section
namespace Go.Proofs.M
open Go Go.Sx Go.RowKit Go.Proofs Go.Proofs.T Go.Proofs.Q
set_option maxRecDepth 4000
attribute [local irreducible] VR VC thenQ blockQ retL VX
abbrev yv (l:Nat):Value:=.func (.yield l) #[] #[]
abbrev GZ (v:Value):AV:=.c (.d (.raw v))
def EO (w:World) (b o:Nat) (x:D):Prop:=(∃v,w.cell? ⟨b,o,none⟩=some v/\De w (fun b=>b<w.heap.size) x v)/\b<w.heap.size
def PY (sil:List Si) (slot:Int) (X:List Wk) (i j:Nat):Bool:=
 decide (j≠i)&&decide ((X.getD j default).ac.kind=1)&&decide ((X.getD j default).ac.offset=(X.getD i default).ac.offset)&&G7 sil (X.getD j default).node (X.getD i default).node slot
def GY (sil:List Si) (slot:Int) (X:List Wk) (i k:Nat):List Nat:=(List.range k).filter (PY sil slot X i)
theorem K8 (sil:List Si) (slot:Int) (X:List Wk) (i k:Nat):GY sil slot X i (k+1)=GY sil slot X i k++(if PY sil slot X i k=true then[k] else[]):=by
 unfold GY;rw[List.range_succ,List.filter_append]
 congr 1
 cases h:PY sil slot X i k<;>simp[h]
theorem TH (sil:List Si) (slot:Int) (X:List Wk) (i k:Nat):(GY sil slot X i k).length<=k:=by
 have:=AeN (PY sil slot X i) (List.range k);rw[List.length_range] at this;exact this
abbrev stS (y b1 b2 rb ro n cap:Nat) (k:Nat):St:=AS [(0,GZ (yv y)),(1,GZ (pvo b1 0)),(2,GZ (pvo b2 0)),(9,GZ (.slice (some ⟨rb,ro,none⟩) n cap)),(10,AI n),(11,AI k)] []
abbrev stY (B:Nat->Nat) (y b1 b2 rb ro n cap:Nat) (k:Nat):St:=AS [(0,GZ (yv y)),(1,GZ (pvo b1 0)),(2,GZ (pvo b2 0)),(9,GZ (.slice (some ⟨rb,ro,none⟩) n cap)),(10,AI n),(11,AI k),(58,AB true),(59,GZ (yv y)),(60,GZ (pvo (B k) 0))] []
structure Aag (J:List Nat->World->Prop) (w W:World) (L:Nat->List Nat) (y b1 b2 rb ro n cap k:Nat) (a1:Act) (w1:World):Prop where
 kn:k<=n
 j:J (L k) w1
 old:Below w.heap.size w w1
 sz:W.heap.size<=w1.heap.size
 sat:Sat (⟨w1,fun b=>b<w.heap.size,fun _=>False⟩:Env Tryz.prog 65) (stS y b1 b2 rb ro n cap k) a1 w1
theorem Rj {B:Nat} {w W1 W2:World} {p:Nat->Obj->Prop} (h:Below B w W1) (ht:Gu p W1 W2) (hp:∀b o,p b o->B<=b) (hB:B<=W1.heap.size):Below B w W2:=h.trans (ht.below hB hp)
set_option maxHeartbeats 4000000 in
theorem Nm {w:World} {n i:Nat} {B:Nat->Nat} {X:List Wk} {sil:List Si} {slot:Int} {b1 b2 bs rb ro cap:Nat} (hX:X.length=n) (hi:i<n) (hn:n<=1000)
  (c1:EO w b1 0 (.raw (pvo bs 0))) (c2:EO w b2 0 (.raw (pvo (B i) 0))) (s0:EO w bs 0 (.int .i64 slot)) (s2:EO w bs 2 (.raw (.slice (some ⟨rb,ro,none⟩) n cap))) (s4:EO w bs 4 (sis sil))
  (hr:∀j,j<n->EO w rb (ro+j) (.raw (pvo (B j) 0))) (hB:∀j,j<n->∃ca ta,w.heap[B j]?=some (.cells ca ta (0,0)))
  (hc:∀j,j<n->EO w (B j) 22 (.int .i64 (X.getD j default).node)/\EO w (B j) 23 (.int .i64 (X.getD j default).ac.kind)/\EO w (B j) 24 (.int .i64 (X.getD j default).ac.offset)) (inj:∀j k,j<n->k<n->B j=B k->j=k):
  Acw (fun _=>False) Tryz.prog 174 #[pvo b1 0,pvo b2 0] (fun b:Nat=>#[pvo b 0]) (fun xs=>xs=(Bt sil slot X i).map B) (n+1) w:=by
 intro y J W hW hJ hy h0;refine calls_of_wp Tryz.func174 rfl ?_;have hcell:∀(W':World),Below w.heap.size w W'->w.heap.size<=W'.heap.size->∀{b o x},EO w b o x->Ace (⟨W',fun b=>b<w.heap.size,fun _=>False⟩:Env Tryz.prog 65) b o x:=by
  intro W' hb' hsz b o x ⟨⟨v,h1,h2⟩,hlt⟩;exact⟨⟨v,(World.cell?_of_block (hb'.block b hlt)).trans h1,De.A7 (fun b' h'=>⟨h',hb'.block b' h'⟩) h2⟩,by show b<W'.heap.size;omega,fun h=>h,fun b' h'=>⟨by show b'<W'.heap.size;have h':b'<w.heap.size:=h';omega,fun h=>h⟩⟩
 have hcells:∀(W':World),Below w.heap.size w W'->w.heap.size<=W'.heap.size->∀j,j<n->OU (⟨W',fun b=>b<w.heap.size,fun _=>False⟩:Env Tryz.prog 65) (B j):=by
  intro W' hb' hsz j hj;obtain⟨ca,ta,h1⟩:=hB j hj;have hlt:=(hc j hj).1.2;exact⟨⟨ca,ta,(hb'.block _ hlt).trans h1⟩,by show B j<W'.heap.size;omega,fun h=>h⟩
 have hs0:=Wo (P:=Tryz.prog) (N:=65) (w:=W) (ρ:=fun _=>⟨0,0,false⟩) (Im:=fun b=>b<w.heap.size) (S0:=fun _=>False) (args:=[GZ (yv y),GZ (pvo b1 0),GZ (pvo b2 0)]) (vs:=[yv y,pvo b1 0,pvo b2 0]) (nt:=65)
  (.cons ⟨rfl,rfl⟩ (.cons ⟨rfl,rfl⟩ (.cons ⟨rfl,rfl⟩ .nil))) rfl (Nat.le_of_ble_eq_true rfl) rfl (fun b hb=>by have:=hW.size;have hb:b<w.heap.size:=hb;omega)
 have hJK:∀{E:Env Tryz.prog 65} {σ:St} {s:List Nat} {w2 a3 w3},(E.w0=w2/\E.S0=fun _=>False)->J s w2->Below w.heap.size w w2->W.heap.size<=w2.heap.size->Sat E σ a3 w3->J s w3/\Below w.heap.size w w3/\W.heap.size<=w3.heap.size:=by
  rintro E σ s w2 a3 w3 ⟨e1,e2⟩ hj ho hz ⟨ρ,Im,hs3⟩;have hk:G2 w2 (fun _=>False) w3:=by rw[<-e1,<-e2];exact hs3.A7
  have hks:=hk.size;have hBs:=hW.size;have ht:Gu (itP W.heap.size fun _=>False) w2 w3:=Nd hk (fun b e=>e.elim);exact⟨hJ _ _ _ hj ht,Rj ho ht (fun b o h=>by have:=h.1;omega) (by omega),by omega⟩
 obtain⟨R,hR⟩:∃R,R=bodyPost Tryz.prog Tryz.f174 (fun e W'=>(∃v,e=.returned v)/\∃xs,xs=(Bt sil slot X i).map B/\J xs W'):=⟨_,rfl⟩;rw[<-hR];have hno:¬LetsOut R:=by
  rintro⟨a,w,h⟩;rw[hR] at h;obtain⟨⟨v,hv⟩,_⟩:=h;cases hv
 have hend:∀{E:Env Tryz.prog 65} {σ:St} {e:Exit} {a:Act} {w1:World},(e=.normal\/e=.ret)->Sat E σ a w1->J ((Bt sil slot X i).map B) w1->R e a w1:=by
  intro E σ e a w1 he ⟨ρ,Im,hs⟩ hj;obtain⟨v,hv,_⟩:=Ih.results hs (fn:=Tryz.f174) (rs:=[]) rfl .nil;rw[hR];rcases he with rfl|rfl
  ·exact⟨hs.defers,v,hv,⟨v,rfl⟩,_,rfl,hj⟩
  ·exact⟨hs.defers,v,hv,⟨v,rfl⟩,_,rfl,hj⟩
 have hc0:=@hcell W hW hW.size;refine VX.run (Qt ?_) hs0
 repeat'(first|refine sR ?_|(refine gL ?_;first|refine A1 (gk rfl) rfl (hc0 c1) rfl rfl ?_)|(refine gL ?_;first|refine A1 (gk rfl) rfl (hc0 s2) rfl rfl ?_)|(refine gN ?_;first|refine CM (gk rfl) rfl rfl ?_)|(show VR _ _ _ (⟨_,.fieldAddr _ _ _,_,_,_,_⟩ :: _) _ _ _;first|refine CE (gk rfl) rfl rfl rfl rfl rfl ?_)|(refine gE ?_;first|refine RD (gk rfl) rfl rfl rfl ?_)|refine Aj rfl (by exact tt0) ?_|fail)
 refine VX.le (σ':=stS y b1 b2 rb ro n cap 0) ?_ ?_
 ·refine lg ?_ ?_ rfl (by rfl)
  all_goals repeat'(first|exact tt0|refine⟨⟨_,rfl,?_⟩,?_⟩|exact .c .d|fail)
 refine VX.mk fun a1 w1 hs1=>?_
 have hL0:Aag J w W (fun k=>(GY sil slot X i k).map B) y b1 b2 rb ro n cap 0 a1 w1:=by
  obtain⟨g1,g2,g3⟩:=hJK (s:=[]) ⟨rfl,rfl⟩ h0 hW (AeU _) hs1;exact⟨AeV _,g1,g2,g3,L1 hs1 rfl (fun b hb=>by have:=hW.size;have hb:b<w.heap.size:=hb;omega)⟩
 clear hs1 hs0 h0 hc0;refine wp_block (wp_loop_ghost (fun m a1 w1=>∃k,m=n-k/\Aag J w W (fun k=>(GY sil slot X i k).map B) y b1 b2 rb ro n cap k a1 w1) n ?_ ?_)
 ·exact⟨0,by omega,hL0⟩
 rintro m a2 w2 ⟨k,rfl,H⟩;have hBsz:=hW.size;have ho2:=H.old;have hz2:=H.sz;have hc2:=@hcell w2 ho2 (by omega);have hcs2:=hcells w2 ho2 (by omega);by_cases hkn:k<n
 ·have hdd:decide ((k:Int)<(n:Int))=true:=Aed (by omega);have hck:=hc k hkn;have hci:=hc i hi;refine VX.run (Qt ?_) H.sat
  repeat'(first|refine sR ?_|refine Aj rfl (by exact tt0) ?_|fail)
  refine Qt ?_
  repeat'(first|(refine gT ?_;first|refine BX ?_)|(show VC _ (.cond _ _ _) _ _;first|refine Ah rfl ?_|refine At rfl (by assumption) ?_)|refine Ex ?_)
  refine VX.mk fun a3 w3 hs3=>wp_seq (wp_block ?_)
  refine VX.run (Qt ?_) hs3
  repeat'(first|refine sR ?_|(refine gL ?_;first|refine A1 (gk rfl) rfl (hc2 (hr k hkn)) rfl rfl ?_)|(refine gI ?_;first|refine M6 (gk rfl) rfl rfl rfl rfl rfl (by omega) rfl ?_)|refine Aj rfl (by exact tt0) ?_|fail)
  refine VX.le (σ':=AS [(0,GZ (yv y)),(1,GZ (pvo b1 0)),(2,GZ (pvo b2 0)),(5,GZ (pvo (B k) 0)),(9,GZ (.slice (some ⟨rb,ro,none⟩) n cap)),(10,AI n),(11,AI k)] []) ?_ ?_
  ·refine lg ?_ ?_ rfl (by rfl)
   all_goals repeat'(first|exact tt0|refine⟨⟨_,rfl,?_⟩,?_⟩|exact .c .d|fail)
  have hEq:B k=B i↔k=i:=⟨fun h=>inj _ _ hkn hi h,fun h=>by rw[h]⟩;have fin:∀{E:Env Tryz.prog 65} {w8:World} {a9:Act} {w9:World},(E.w0=w8/\E.S0=fun _=>False)->J ((GY sil slot X i (k+1)).map B) w8->Below w.heap.size w w8->W.heap.size<=w8.heap.size->Sat E (stS y b1 b2 rb ro n cap (k+1)) a9 w9->
    ∃m',m'<n-k/\∃k1,m'=n-k1/\Aag J w W (fun k=>(GY sil slot X i k).map B) y b1 b2 rb ro n cap k1 a9 w9:=by
   intro E w8 a9 w9 hE hj ho hz hs;obtain⟨g1,g2,g3⟩:=hJK hE hj ho hz hs;exact⟨n-(k+1),by omega,k+1,rfl,by omega,g1,g2,g3,L1 hs rfl (fun b hb=>by have hb:b<w.heap.size:=hb;omega)⟩
  cases hb:PY sil slot X i k with
  |false=>
   have hsk:GY sil slot X i (k+1)=GY sil slot X i k:=by rw[K8,hb];simp
   refine VX.mk fun a4 w4 hs4=>?_
   refine VX.run (MX ?_) hs4;have hj2:J ((GY sil slot X i (k+1)).map B) w2:=by rw[hsk];exact H.j
   have hh:=ID sil (X.getD k default).node (X.getD i default).node slot;unfold PY at hb;by_cases e1:k=i
   ·have d1:(!decide (B k=B i))=false:=by rw[Aed (hEq.2 e1)];rfl
    repeat'(first|refine sB ?_|(refine gL ?_;first|refine A1 (gk rfl) rfl (hc2 c2) rfl rfl ?_)|(show VR _ _ _ (⟨_,.binOp .neq _ _ _ _,_,_,_,_⟩ :: _) _ _ _;first|refine F4 (gk rfl) rfl rfl rfl rfl (hcs2 k hkn) (hcs2 i hi) rfl ?_)|refine Aj rfl (by exact tt0) ?_|refine Az rfl (by assumption) ?_|refine Ap (by kernel_rfl) ?_|(refine gD ?_;first|refine Ag rfl ?_)|fail)
    refine VN (σ':=stS y b1 b2 rb ro n cap k) ?_ ?_
    ·refine lg ?_ ?_ rfl (by rfl)
     all_goals repeat'(first|exact tt0|refine⟨⟨_,rfl,?_⟩,?_⟩|exact .c .d|fail)
    intro a5 w5 hs5;show Code.wp _ _ _ _ _;refine VX.run (MX ?_) hs5
    repeat'(first|refine sR ?_|refine Aj rfl (by first|exact tt0|omega) ?_|fail)
    refine VN (σ':=stS y b1 b2 rb ro n cap (k+1)) ?_ ?_
    ·refine lg ?_ ?_ rfl (by rfl)
     all_goals repeat'(first|exact tt0|refine⟨⟨_,rfl,?_⟩,?_⟩|exact .c .d|fail)
    intro a6 w6 hs6;exact fin ⟨rfl,rfl⟩ hj2 ho2 hz2 hs6
   ·have d1:(!decide (B k=B i))=true:=by rw[Aee (fun h=>e1 (hEq.1 h))];rfl
    by_cases e2:(X.getD k default).ac.kind=1
    ·have d2:decide ((X.getD k default).ac.kind=1)=true:=Aed e2;by_cases e3:(X.getD k default).ac.offset=(X.getD i default).ac.offset
     ·have d3:decide ((X.getD k default).ac.offset=(X.getD i default).ac.offset)=true:=Aed e3;have e4:G7 sil (X.getD k default).node (X.getD i default).node slot=false:=by
       rw[Aed e1,d2,d3] at hb;simpa using hb
      rw[e4] at hh
      repeat'(first|refine sB ?_|(refine gL ?_;first|refine A1 (gk rfl) rfl (hc2 c1) rfl rfl ?_)|(refine gL ?_;first|refine A1 (gk rfl) rfl (hc2 c2) rfl rfl ?_)|(refine gL ?_;first|refine A1 (gk rfl) rfl (hc2 s0) rfl rfl ?_)|(refine gL ?_;first|refine A1 (gk rfl) rfl (hc2 s4) rfl rfl ?_)|(refine gL ?_;first|refine A1 (gk rfl) rfl (hc2 hck.1) rfl rfl ?_)|(refine gL ?_;first|refine A1 (gk rfl) rfl (hc2 hck.2.1) rfl rfl ?_)|(refine gL ?_;first|refine A1 (gk rfl) rfl (hc2 hck.2.2) rfl rfl ?_)|(refine gL ?_;first|refine A1 (gk rfl) rfl (hc2 hci.1) rfl rfl ?_)|(refine gL ?_;first|refine A1 (gk rfl) rfl (hc2 hci.2.2) rfl rfl ?_)|(show VR _ _ _ (⟨_,.binOp .neq _ _ _ _,_,_,_,_⟩ :: _) _ _ _;first|refine F4 (gk rfl) rfl rfl rfl rfl (hcs2 k hkn) (hcs2 i hi) rfl ?_)|(refine gN ?_;first|refine CM (gk rfl) rfl rfl ?_)|(show VR _ _ _ (⟨_,.fieldAddr _ _ _,_,_,_,_⟩ :: _) _ _ _;first|refine CE (gk rfl) rfl rfl rfl rfl rfl ?_)|refine Aj rfl (by exact tt0) ?_|(refine gC ?_;first|refine Aa (hh) (gk rfl) rfl rfl rfl (by rfl) rfl (by rfl) rfl ?_)|refine Az rfl (by assumption) ?_|refine Ap (by kernel_rfl) ?_|(refine gD ?_;first|refine Ag rfl ?_)|fail)
      refine VN (σ':=stS y b1 b2 rb ro n cap k) ?_ ?_
      ·refine lg ?_ ?_ rfl (by rfl)
       all_goals repeat'(first|exact tt0|refine⟨⟨_,rfl,?_⟩,?_⟩|exact .c .d|fail)
      intro a5 w5 hs5;show Code.wp _ _ _ _ _;refine VX.run (MX ?_) hs5
      repeat'(first|refine sR ?_|refine Aj rfl (by first|exact tt0|omega) ?_|fail)
      refine VN (σ':=stS y b1 b2 rb ro n cap (k+1)) ?_ ?_
      ·refine lg ?_ ?_ rfl (by rfl)
       all_goals repeat'(first|exact tt0|refine⟨⟨_,rfl,?_⟩,?_⟩|exact .c .d|fail)
      intro a6 w6 hs6;exact fin ⟨rfl,rfl⟩ hj2 ho2 hz2 hs6
     ·have d3:decide ((X.getD k default).ac.offset=(X.getD i default).ac.offset)=false:=Aee e3
      repeat'(first|refine sB ?_|(refine gL ?_;first|refine A1 (gk rfl) rfl (hc2 c2) rfl rfl ?_)|(refine gL ?_;first|refine A1 (gk rfl) rfl (hc2 hck.2.1) rfl rfl ?_)|(refine gL ?_;first|refine A1 (gk rfl) rfl (hc2 hck.2.2) rfl rfl ?_)|(refine gL ?_;first|refine A1 (gk rfl) rfl (hc2 hci.2.2) rfl rfl ?_)|(show VR _ _ _ (⟨_,.binOp .neq _ _ _ _,_,_,_,_⟩ :: _) _ _ _;first|refine F4 (gk rfl) rfl rfl rfl rfl (hcs2 k hkn) (hcs2 i hi) rfl ?_)|(refine gN ?_;first|refine CM (gk rfl) rfl rfl ?_)|(show VR _ _ _ (⟨_,.fieldAddr _ _ _,_,_,_,_⟩ :: _) _ _ _;first|refine CE (gk rfl) rfl rfl rfl rfl rfl ?_)|refine Aj rfl (by exact tt0) ?_|refine Az rfl (by assumption) ?_|refine Ap (by kernel_rfl) ?_|(refine gD ?_;first|refine Ag rfl ?_)|fail)
      refine VN (σ':=stS y b1 b2 rb ro n cap k) ?_ ?_
      ·refine lg ?_ ?_ rfl (by rfl)
       all_goals repeat'(first|exact tt0|refine⟨⟨_,rfl,?_⟩,?_⟩|exact .c .d|fail)
      intro a5 w5 hs5;show Code.wp _ _ _ _ _;refine VX.run (MX ?_) hs5
      repeat'(first|refine sR ?_|refine Aj rfl (by first|exact tt0|omega) ?_|fail)
      refine VN (σ':=stS y b1 b2 rb ro n cap (k+1)) ?_ ?_
      ·refine lg ?_ ?_ rfl (by rfl)
       all_goals repeat'(first|exact tt0|refine⟨⟨_,rfl,?_⟩,?_⟩|exact .c .d|fail)
      intro a6 w6 hs6;exact fin ⟨rfl,rfl⟩ hj2 ho2 hz2 hs6
    ·have d2:decide ((X.getD k default).ac.kind=1)=false:=Aee e2
     repeat'(first|refine sB ?_|(refine gL ?_;first|refine A1 (gk rfl) rfl (hc2 c2) rfl rfl ?_)|(refine gL ?_;first|refine A1 (gk rfl) rfl (hc2 hck.2.1) rfl rfl ?_)|(show VR _ _ _ (⟨_,.binOp .neq _ _ _ _,_,_,_,_⟩ :: _) _ _ _;first|refine F4 (gk rfl) rfl rfl rfl rfl (hcs2 k hkn) (hcs2 i hi) rfl ?_)|(refine gN ?_;first|refine CM (gk rfl) rfl rfl ?_)|(show VR _ _ _ (⟨_,.fieldAddr _ _ _,_,_,_,_⟩ :: _) _ _ _;first|refine CE (gk rfl) rfl rfl rfl rfl rfl ?_)|refine Aj rfl (by exact tt0) ?_|refine Az rfl (by assumption) ?_|refine Ap (by kernel_rfl) ?_|(refine gD ?_;first|refine Ag rfl ?_)|fail)
     refine VN (σ':=stS y b1 b2 rb ro n cap k) ?_ ?_
     ·refine lg ?_ ?_ rfl (by rfl)
      all_goals repeat'(first|exact tt0|refine⟨⟨_,rfl,?_⟩,?_⟩|exact .c .d|fail)
     intro a5 w5 hs5;show Code.wp _ _ _ _ _;refine VX.run (MX ?_) hs5
     repeat'(first|refine sR ?_|refine Aj rfl (by first|exact tt0|omega) ?_|fail)
     refine VN (σ':=stS y b1 b2 rb ro n cap (k+1)) ?_ ?_
     ·refine lg ?_ ?_ rfl (by rfl)
      all_goals repeat'(first|exact tt0|refine⟨⟨_,rfl,?_⟩,?_⟩|exact .c .d|fail)
     intro a6 w6 hs6;exact fin ⟨rfl,rfl⟩ hj2 ho2 hz2 hs6
  |true=>
   have hsk:GY sil slot X i (k+1)=GY sil slot X i k++[k]:=by rw[K8,hb];simp
   have hh:=ID sil (X.getD k default).node (X.getD i default).node slot;unfold PY at hb;simp only[Aen,Aef] at hb;obtain⟨⟨⟨e1,e2⟩,e3⟩,e4⟩:=hb;rw[e4] at hh;have d1:(!decide (B k=B i))=true:=by rw[Aee (fun h=>e1 (hEq.1 h))];rfl
   have d2:decide ((X.getD k default).ac.kind=1)=true:=Aed e2;have d3:decide ((X.getD k default).ac.offset=(X.getD i default).ac.offset)=true:=Aed e3;refine VX.mk fun a4 w4 hs4=>wp_seq ?_
   refine wpIn_wide (n:=3).1 ?_;refine SP 46 (by simp only[List.take_succ_cons,List.take_zero];rfl) (by simp only[List.drop_succ_cons,List.drop_zero];rfl) (inferInstance:XG Tryz.prog).out ?hno (by kernel_rfl) ?_ _ _ hs4
   case hno=>
    rintro⟨a,w,h⟩;exact hno ⟨a,w,h⟩
   repeat'(first|(refine gR ?_;first|(refine gL ?_;first|refine A1 (gk rfl) rfl (hc2 c1) rfl rfl ?_)|(refine gL ?_;first|refine A1 (gk rfl) rfl (hc2 c2) rfl rfl ?_)|(refine gL ?_;first|refine A1 (gk rfl) rfl (hc2 s0) rfl rfl ?_)|(refine gL ?_;first|refine A1 (gk rfl) rfl (hc2 s4) rfl rfl ?_)|(refine gL ?_;first|refine A1 (gk rfl) rfl (hc2 hck.1) rfl rfl ?_)|(refine gL ?_;first|refine A1 (gk rfl) rfl (hc2 hck.2.1) rfl rfl ?_)|(refine gL ?_;first|refine A1 (gk rfl) rfl (hc2 hck.2.2) rfl rfl ?_)|(refine gL ?_;first|refine A1 (gk rfl) rfl (hc2 hci.1) rfl rfl ?_)|(refine gL ?_;first|refine A1 (gk rfl) rfl (hc2 hci.2.2) rfl rfl ?_)|(show VR _ _ _ (⟨_,.binOp .neq _ _ _ _,_,_,_,_⟩ :: _) _ _ _;first|refine F4 (gk rfl) rfl rfl rfl rfl (hcs2 k hkn) (hcs2 i hi) rfl ?_)|(refine gN ?_;first|refine CM (gk rfl) rfl rfl ?_)|(show VR _ _ _ (⟨_,.fieldAddr _ _ _,_,_,_,_⟩ :: _) _ _ _;first|refine CE (gk rfl) rfl rfl rfl rfl rfl ?_)|refine Aj rfl (by exact tt0) ?_|(refine gC ?_;first|refine Aa (hh) (gk rfl) rfl rfl rfl (by rfl) rfl (by rfl) rfl ?_)|refine Az rfl (by assumption) ?_)|(refine gO ?_;first|refine Ap (by kernel_rfl) ?_))
   refine VN (σ':=stY B y b1 b2 rb ro n cap k) ?_ ?_
   ·refine lg ?_ ?_ rfl (by rfl)
    all_goals repeat'(first|exact tt0|refine⟨⟨_,rfl,?_⟩,?_⟩|exact .c .d|fail)
   intro a5 w5 hs5;obtain⟨hj5,ho5,hz5⟩:=hJK ⟨rfl,rfl⟩ H.j ho2 hz2 hs5;have he59:a5.eval (.tmp 59)=yv y:=by
    obtain⟨ρ,Im,h5⟩:=hs5;exact(h5.fr 59 (GZ (yv y)) rfl).1
   have he60:a5.eval (.tmp 60)=pvo (B k) 0:=by
    obtain⟨ρ,Im,h5⟩:=hs5;exact(h5.fr 60 (GZ (pvo (B k) 0)) rfl).1
   have hlen:((GY sil slot X i k).map B).length<n+1:=by
    have:=TH sil slot X i k;rw[Aet];omega
   refine V1 ?hg he59 he60 (hy 2 _ (B k) w5 hj5 hlen) ?_
   case hg=>
    obtain⟨ρ,Im,h5⟩:=hs5;exact GOK.wanted (N:=65) (σ:=stY B y b1 b2 rb ro n cap k) (GOK.some (j:=43) (g:=58) (want:=true) (b:=true) rfl rfl rfl rfl rfl) h5 (fun p hp=>by rw[Aer] at hp;subst hp;rfl)
   rintro w6 ⟨hj6,ht6⟩;have ho6:Below w.heap.size w w6:=Rj ho5 ht6 (fun b o h=>h.1) (by omega);have hz6:W.heap.size<=w6.heap.size:=Ae4 hz5 ht6.size;have hj6':J ((GY sil slot X i (k+1)).map B) w6:=by rw[hsk,Ae2];exact hj6
   have hs6:=L1 (w':=w6) (Im0:=fun b=>b<w.heap.size) hs5 rfl (fun b hb=>by have hb:b<w.heap.size:=hb;omega);have hs7:Sat (⟨w6,fun b=>b<w.heap.size,fun _=>False⟩:Env Tryz.prog 65) ((stY B y b1 b2 rb ro n cap k).upd (.s 61) (some (.v (AB true)))) (a5.put (some 61) (.bool true)) w6:=by
    obtain⟨ρ,Im,h6⟩:=hs6;exact⟨ρ,Im,h6.put (by decide) rfl (fun nm hn=>by cases hn)⟩
   refine HT 2 (by simp only[List.take_succ_cons,List.take_zero];rfl) (by simp only[List.drop_succ_cons,List.drop_zero];rfl) ?_;refine J9 ?hno2 ?_ _ _ hs7
   case hno2=>
    rintro⟨a,w,h⟩;exact hno ⟨a,w,h⟩
   repeat'(first|refine sA ?_|refine Aj rfl (by exact tt0) ?_|fail)
   refine fun a8 w8 hs8=>?_
   show Code.wp _ _ _ _ _;refine VX.run (MX ?_) hs8
   repeat'(first|(show VC _ (.cond _ _ _) _ _;first|refine Ag rfl ?_)|refine Ex ?_)
   refine fun a9 w9 hs9=>?_
   show Code.wp _ _ _ _ _;refine VX.run (MX ?_) hs9
   repeat'(first|refine sR ?_|refine Aj rfl (by first|exact tt0|omega) ?_|fail)
   refine VN (σ':=stS y b1 b2 rb ro n cap (k+1)) ?_ ?_
   ·refine lg ?_ ?_ rfl (by rfl)
    all_goals repeat'(first|exact tt0|refine⟨⟨_,rfl,?_⟩,?_⟩|exact .c .d|fail)
   intro a10 w10 hs10;exact fin ⟨rfl,rfl⟩ hj6' ho6 hz6 hs10
 ·have hke:k=n:=by have:=H.kn;omega
  subst hke;have hdd:decide ((k:Int)<(k:Int))=false:=Aee (by omega);refine VX.run (MX ?_) H.sat
  repeat'(first|refine sB ?_|refine Aj rfl (by exact tt0) ?_|(refine gD ?_;first|refine Ag rfl ?_|refine At rfl (by assumption) ?_)|fail)
  refine fun a3 w3 hs3=>?_
  show(if 0=0 then R .normal a3 w3 else R (.exit 0) a3 w3);rw[AeT rfl];refine hend (.inl rfl) hs3 ?_;have e:GY sil slot X i k=Bt sil slot X i:=by rw[<-hX];rfl
  rw[<-e];exact(hJK ⟨rfl,rfl⟩ H.j ho2 hz2 hs3).1
end Go.Proofs.M
end
section
namespace Go.Proofs.M
open Go Go.Sx Go.RowKit Go.Proofs Go.Proofs.T Go.Proofs.Q
set_option maxRecDepth 4000
attribute [local irreducible] VR VC thenQ blockQ retL
def Dy (R:Nat->RI) (n:Nat):D:=.rd n 1 fun k _=>.raw (pvo (R k).blk 0)
abbrev sbC (slot turns:Int) (R:Nat->RI) (n:Nat) (loads:List Ld) (sil:List Si) (len:Nat):List C:=[.d (.int .i64 slot),.d (.int .i64 turns),.d (Dy R n),.d (lds loads),.d (sis sil),.row 102 len]
def fxL (slot turns:Int) (R:Nat->RI) (n:Nat) (loads:List Ld) (sil:List Si) (arr:List Ar) (r0 r2:RI):List (Nat×Blk):=
 [(100,.box (sbC slot turns R n loads sil arr.length)),(102,.row 62 3 (rowOf Ar.enc arr)),(9100,.pin 100 r0),(9102,.pin 102 r2)]
theorem FM {slot turns:Int} {R:Nat->RI} {n:Nat} {loads:List Ld} {sil:List Si} {arr:List Ar} {r0 r2:RI}:EN (fxL slot turns R n loads sil arr r0 r2):=by
 intro p hp;simp only[fxL,Aex,Aek,or_false] at hp;rcases hp with rfl|rfl|rfl|rfl<;>simp
theorem HD (w:Wk):∀c∈w.cs,c.names=[]:=by
 intro c hc;simp only[Wk.cs,Aex,Aek,or_false] at hc
 repeat'(rcases hc with rfl|hc;rfl)
theorem F3 (X:List Wk):∀cs∈X.map Wk.cs,∀c∈cs,c.names=[]:=by
 intro cs hcs;obtain⟨w,_,rfl⟩:=AeO.1 hcs;exact HD w
theorem HC {X:List Wk} {i:Nat} (hi:i<X.length):(X.map Wk.cs).getD i []=(X.getD i default).cs:=by
 simp[Aec,hi]
end Go.Proofs.M
end
section
namespace Go.Proofs.M
open Go Go.Sx Go.RowKit Go.Proofs Go.Proofs.T Go.Proofs.Q
set_option maxRecDepth 4000
attribute [local irreducible] VR VC thenQ blockQ retL VX
theorem RP (v1 v2:Value):FnS Tryz.prog 129 [GZ v1,GZ v2] [] (.fnc 174 [.ptr 2 0,.ptr 3 0]) [(2,.box [.d (.raw v1)]),(3,.box [.d (.raw v2)])]:=by
 refine fb Tryz.func129 (by kernel_rfl) rfl Tryz.ntmps129 Tryz.results129 rfl rfl rfl rfl fun E hS=>?_
 repeat'(first|refine sB ?_|refine Aj rfl (by exact tt0) ?_|fail)
 exact⟨Ab,[.fnc 174 [.ptr 2 0,.ptr 3 0]],.tmp rfl rfl .nil,rfl,fun p hp=>by
  simp only[Aex,Aek,or_false] at hp;rcases hp with rfl|rfl<;>rfl⟩
theorem EO.grow {w w':World} {b o:Nat} {x:D} (h:EO w b o x) (hb:Below w.heap.size w w'):EO w' b o x:=by
 obtain⟨⟨v,h1,h2⟩,hlt⟩:=h;exact⟨⟨v,(World.cell?_of_block (hb.block b hlt)).trans h1,De.A7 (fun c hc=>⟨AeE hc hb.size,hb.block c hc⟩) h2⟩,AeE hlt hb.size⟩
theorem Pg (v1 v2:Value) (h1:v1.oneCell'=true) (h2:v2.oneCell'=true) (w:World):
  Calls Tryz.prog 129 #[v1,v2] w fun e w'=>∃v,e=.returned v/\∃b1 b2,v=.func (.func 174) #[] #[pvo b1 0,pvo b2 0]/\EO w' b1 0 (.raw v1)/\EO w' b2 0 (.raw v2)/\Below w.heap.size w w':=by
 have h:=(RP v1 v2).2 w (fun _=>⟨0,0,true⟩) (fun _=>False) (fun _=>False) [v1,v2] (.cons ⟨rfl,h1⟩ (.cons ⟨rfl,h2⟩ .nil)) (Di (fun b hb=>hb.elim));refine Calls.mono h fun e w' hh=>?_
 obtain⟨v,ρ,Im,rfl,hm,⟨us,rfl,hus⟩,_⟩:=hh;refine⟨_,rfl,?_⟩;cases hus with
 |cons g1 hus=>
  cases hus with
  |cons g2 hus=>
   cases hus;have e1:=g1;have e2:=g2;simp only[BU] at e1 e2;subst e1;subst e2;obtain⟨hn2,us2,T2,hh2,ha2⟩:=hm.bk 2 _ rfl;obtain⟨hn3,us3,T3,hh3,ha3⟩:=hm.bk 3 _ rfl;obtain⟨hl2,_⟩:=hm.own 2 _ rfl rfl hn2;obtain⟨hl3,_⟩:=hm.own 3 _ rfl rfl hn3;cases ha2 with
   |cons hv2 ha2=>
    cases ha2;cases ha3 with
    |cons hv3 ha3=>
     cases ha3;have hv2:=hv2.1;have hv3:=hv3.1;subst hv2;subst hv3;exact⟨_,_,rfl,⟨⟨_,by simp[World.cell?,hh2],⟨rfl,h1⟩⟩,hl2⟩,⟨⟨_,by simp[World.cell?,hh3],⟨rfl,h2⟩⟩,hl3⟩,hm.A7.below (fun b h=>h)⟩
theorem GR {ρ:Nat->RI} {w:World} {Im:Nat->Prop} {nm:Nat} {cs:List C} (h:Bz ρ w Im nm (.box cs)) (hI:∀b,Im b->b<w.heap.size) {k:Nat} {x:D} (hk:cs[k]?=some (.d x)):EO w (ρ nm).blk k x:=by
 obtain⟨hnil,us,T,hh,ha⟩:=h;obtain⟨v,hv,hr⟩:=ha.get hk;refine⟨⟨v,by simp[World.cell?,hh,hv],De.A7 (fun b hb=>⟨hI b hb,rfl⟩) hr⟩,?_⟩;have:=(Array.getElem?_eq_some_iff.1 hh).1;exact this
structure XH (w:World) (slot:Int) (sil:List Si) (X:List Wk) (R:Nat->RI) (bs rb ro cap:Nat):Prop where
 s0:EO w bs 0 (.int .i64 slot)
 s2:EO w bs 2 (.raw (.slice (some ⟨rb,ro,none⟩) X.length cap))
 s4:EO w bs 4 (sis sil)
 hr:∀j,j<X.length->EO w rb (ro+j) (.raw (pvo (R j).blk 0))
 hB:∀j,j<X.length->∃ca ta,w.heap[(R j).blk]?=some (.cells ca ta (0,0))
 hc:∀j,j<X.length->EO w (R j).blk 22 (.int .i64 (X.getD j default).node)/\EO w (R j).blk 23 (.int .i64 (X.getD j default).ac.kind)/\EO w (R j).blk 24 (.int .i64 (X.getD j default).ac.offset)
 inj:∀j k,j<X.length->k<X.length->(R j).blk=(R k).blk->j=k
theorem XH.grow {w w':World} {slot:Int} {sil:List Si} {X:List Wk} {R:Nat->RI} {bs rb ro cap:Nat} (h:XH w slot sil X R bs rb ro cap) (hb:Below w.heap.size w w'):XH w' slot sil X R bs rb ro cap:=
 ⟨h.s0.grow hb,h.s2.grow hb,h.s4.grow hb,fun j hj=>(h.hr j hj).grow hb,fun j hj=>by
  obtain⟨ca,ta,h1⟩:=h.hB j hj;exact⟨ca,ta,(hb.block _ (h.hc j hj).1.2).trans h1⟩,fun j hj=>⟨(h.hc j hj).1.grow hb,(h.hc j hj).2.1.grow hb,(h.hc j hj).2.2.grow hb⟩,h.inj⟩
theorem SB {E:Env Tryz.prog 65} {σ:St} {a:Act} {w:World} {ρ:Nat->RI} {Im:Nat->Prop} {slot turns:Int} {R:Nat->RI} {loads:List Ld} {sil:List Si} {len:Nat} {X:List Wk} (hs:AU E σ a w ρ Im) (h0:0<X.length)
  (hb:σ (.b 100)=some (.k (.box (sbC slot turns R X.length loads sil len)))) (hx:∀j,j<X.length->σ (.b (8000+j))=some (.k (.box (X.getD j default).cs))) (hp:∀j,j<X.length->σ (.b (20000+j))=some (.k (.pin (8000+j) (R j)))):
  ∃rb ro cap,XH w slot sil X R (ρ 100).blk rb ro cap:=by
 have hI:∀b,Im b->b<w.heap.size:=fun b hb=>(hs.im b hb).2.1
 have hbk:=hs.bk 100 _ hb;have hR:∀j,j<X.length->ρ (8000+j)=R j:=fun j hj=>hs.bk (20000+j) _ (hp j hj)
 obtain⟨⟨v2,c2,r2⟩,l2⟩:=GR hbk hI (k:=2) (x:=Dy R X.length) rfl;obtain⟨hmax,ad,cap,rfl,hcap,hel⟩:=r2;obtain⟨rb,ro,rfl,hrb,hcell⟩:=hel h0;refine⟨rb,ro,cap,GR hbk hI rfl,⟨⟨_,c2,rfl,rfl⟩,l2⟩,GR hbk hI rfl,fun j hj=>?_,fun j hj=>?_,fun j hj=>?_,fun j k hj hk e=>?_⟩
 ·obtain⟨u,hu,hru⟩:=hcell j hj 0 (by omega);rw[Nat.mul_one,Nat.add_zero] at hu;exact⟨⟨u,hu,hru⟩,hrb⟩
 ·obtain⟨hnil,us,T,hh,_⟩:=hs.bk (8000+j) _ (hx j hj);rw[hR j hj] at hh;exact⟨_,_,hh⟩
 ·have hbj:=hs.bk (8000+j) _ (hx j hj);have e:=hR j hj;refine⟨?_,?_,?_⟩
  ·rw[<-e];exact GR hbj hI rfl
  ·rw[<-e];exact GR hbj hI rfl
  ·rw[<-e];exact GR hbj hI rfl
 ·have n1:=(hs.bk (8000+j) _ (hx j hj)).1;have n2:=(hs.bk (8000+k) _ (hx k hk)).1;by_cases hjk:j=k
  ·exact hjk
  ·exact absurd (by rw[hR j hj,hR k hk];exact e) (hs.inj _ _ _ _ (hx j hj) (hx k hk) rfl rfl n1 n2 (by omega))
end Go.Proofs.M
end
