/-
  What functions of the program hand back, and plain laws on that. No condition.
-/
import Derived.Test.YtdlcbilgemnomaaGreatSxMae
import Derived.Test.YtdlcbilgemnomaaGreatSxMad
import Derived.Test.YtdlcbilgemnomaaGreatSxLibC
set_option linter.unusedSimpArgs false
set_option linter.unusedVariables false
section
namespace Go.Proofs
open Go Go.Sx Go.Proofs.T Go.Proofs.Q
set_option maxRecDepth 4000
attribute [local irreducible] VR VC thenQ blockQ retL
set_option maxHeartbeats 1000000 in
theorem GB (s:Sta) (slot:Int) (hck:AQ s=0) (hs:0<=slot/\slot<=109951162):FnS Tryz.prog 171 [stA s,AI slot] [] (.tup [.c (.ptr 100 0),AI 0]) [(100,.box (wcs s (.row 101 s.held.length) (.row 102 s.seen.length) slot (atM s.tb slot).1)),(101,.row 110 5 (rowOf Hd.enc s.held)),(102,.row 123 2 (rowOf Sn.enc s.seen))]:=by
 have hc:=Dv s;rw[hck] at hc;refine fb Tryz.func171 (by kernel_rfl) rfl Tryz.ntmps171 Tryz.results171 rfl rfl rfl rfl fun E hS=>?_
 refine AJ ?_
 repeat'(first|refine sB ?_|refine Ak rfl (by exact tt0) ?_|(refine gC ?_;first|refine Aa (hc) (gk rfl) rfl rfl rfl (by rfl) rfl (by exact Av) rfl ?_|refine Aa (BD _ _) (gk rfl) rfl rfl rfl (by rfl) rfl (by exact Av) rfl ?_|refine Aa (DE s hck) (gk rfl) rfl rfl rfl (by(simp only[A0,wfL,AH,wfs,Ae,Ad];rfl)) rfl (by((simp only[Ex,List.map_cons,List.map_nil,Blk.shift,Cr])<;>rfl)) rfl ?_|refine Aa (M9 s.tb slot) (gk rfl) rfl rfl rfl (by rfl) rfl (by exact Av) rfl ?_)|(refine gN ?_;first|refine Aj (gk rfl) rfl rfl ?_)|(refine gD ?_;first|refine Ah rfl ?_|(refine Ay rfl ?_ ?_<;>intro h<;>have hq:=h<;>(try simp only[hqs] at hq)))|fail)
 all_goals first
  |(exfalso;omega)
  |skip
 refine Ao (Am (l:=[(4,.c (.ptr 100 0)),(5,AI 0)]) (b:=[(100,.box (wcs s (.row 101 s.held.length) (.row 102 s.seen.length) slot (atM s.tb slot).1)),(101,.row 110 5 (rowOf Hd.enc s.held)),(102,.row 123 2 (rowOf Sn.enc s.seen))]) (fun n=>if n=100 then 17 else if n=101 then 14101 else if n=102 then 14102 else n) ?_ ?_ rfl (by(simp only[wfL,wfs,Ae,Ad];rfl))) (DG Ab (.tmp rfl rfl (.tmp rfl rfl .nil)) rfl (by repeat'(first|exact tt0|refine⟨rfl,?_⟩)))
 all_goals repeat'(first|exact tt0|refine⟨⟨_,rfl,?_⟩,?_⟩|exact .c .d|exact .c (.ptr rfl)|exact .Bc rfl Ag|refine .box ?_|exact .nil|refine .cons ?_ ?_|exact .d|exact .row rfl rfl|fail)
theorem NN (s:Sta) (slot:Int) (hck:¬AQ s=0):FnS Tryz.prog 171 [stA s,AI slot] [] (.tup [AD (.raw (.pointer none)),AI 1]) []:=by
 have hc:=Dv s;have hd:decide (AQ s≠0)=true:=by simp[hck]
 refine fb Tryz.func171 (by kernel_rfl) rfl Tryz.ntmps171 Tryz.results171 rfl rfl rfl rfl fun E hS=>?_
 repeat'(first|refine sB ?_|refine Ak rfl (by exact tt0) ?_|(refine gC ?_;first|refine Aa (hc) (gk rfl) rfl rfl rfl (by rfl) rfl (by exact Av) rfl ?_)|(refine gD ?_;first|refine Ai rfl ?_|refine At rfl (by assumption) ?_)|fail)
 exact CA Ab rfl rfl rfl rfl
theorem J1 (s:Sta) (slot:Int) (hck:AQ s=0) (hs:¬(0<=slot/\slot<=109951162)):FnS Tryz.prog 171 [stA s,AI slot] [] (.tup [AD (.raw (.pointer none)),AI 2]) []:=by
 have hc:=Dv s;rw[hck] at hc;have hd:(!decide (0<=slot/\slot<=109951162))=true:=by simp only[Bool.not_eq_true',Agm];exact hs
 refine fb Tryz.func171 (by kernel_rfl) rfl Tryz.ntmps171 Tryz.results171 rfl rfl rfl rfl fun E hS=>?_
 repeat'(first|refine sB ?_|refine Ak rfl (by exact tt0) ?_|(refine gC ?_;first|refine Aa (hc) (gk rfl) rfl rfl rfl (by rfl) rfl (by exact Av) rfl ?_|refine Aa (BD _ _) (gk rfl) rfl rfl rfl (by rfl) rfl (by exact Av) rfl ?_)|(refine gD ?_;first|refine Ai rfl ?_|refine Ah rfl ?_|refine At rfl (by assumption) ?_)|fail)
 exact CA Ab rfl rfl rfl rfl
theorem Yx (s:Sta) (slot:Int):FnS Tryz.prog 127 [stA s,AI slot] [] (.tup [acA (Py s slot).1,AI (Py s slot).2]) []:=by
 refine fb Tryz.func127 (by kernel_rfl) rfl Tryz.ntmps127 Tryz.results127 rfl rfl rfl rfl fun E hS=>?_
 by_cases hck:AQ s=0
 ·by_cases hs:0<=slot/\slot<=109951162
  ·have e:Py s slot=(C2 s slot (atM s.tb slot).1,0):=by rw[Py,AgY (by omega),AgY (by omega)]
   rw[e]
   repeat'(first|refine sB ?_|refine Ak rfl (by exact tt0) ?_|(refine gC ?_;first|refine Aa (GB s slot hck hs) (gk rfl) rfl rfl rfl (by(simp only[A0,wfL,AH,wfs,Ae,Ad];rfl)) rfl (by((simp only[Ex,List.map_cons,List.map_nil,Blk.shift,Cr])<;>rfl)) rfl ?_|refine AF [11100,11101,11102] (Cj s slot (atM s.tb slot).1 hck) (gk rfl) rfl (by(repeat'(first|exact .nil|refine .cons ?_ ?_|exact(KY (by simp) rfl (A9 (by simp) rfl rfl (fun _=>rfl)) (A9 (by simp) rfl rfl (fun _=>rfl)))))<;>fail) (by rfl) rfl (by rfl) rfl (by exact Av) rfl ?_)|(refine gD ?_;first|refine Ah rfl ?_)|fail)
   exact AL Ab rfl rfl rfl rfl rfl rfl rfl
  ·have e:Py s slot=(zAc,2):=by rw[Py,AgY (by omega),AgZ (by omega)]
   rw[e]
   repeat'(first|refine sB ?_|refine Ak rfl (by exact tt0) ?_|(refine gC ?_;first|refine Aa (J1 s slot hck hs) (gk rfl) rfl rfl rfl (by rfl) rfl (by exact Av) rfl ?_)|(refine gD ?_;first|refine Ai rfl ?_)|fail)
   exact AL Ab rfl rfl rfl rfl rfl rfl rfl
 ·have e:Py s slot=(zAc,1):=by rw[Py,AgZ hck]
  rw[e]
  repeat'(first|refine sB ?_|refine Ak rfl (by exact tt0) ?_|(refine gC ?_;first|refine Aa (NN s slot hck) (gk rfl) rfl rfl rfl (by rfl) rfl (by exact Av) rfl ?_)|(refine gD ?_;first|refine Ai rfl ?_)|fail)
  exact AL Ab rfl rfl rfl rfl rfl rfl rfl
end Go.Proofs
end
section
namespace Go.Proofs
open Go Go.Sx Go.Proofs.T Go.Proofs.Q
set_option maxRecDepth 4000
attribute [local irreducible] VR VC thenQ blockQ retL
theorem FH {s:Sta} (h:S4 s=true):0<=s.list/\s.list<=255/\0<=s.seq/\s.seq<=255/\0<=s.back/\s.back<=5/\0<=s.wait/\s.wait<=2^s.back.toNat-1/\0<=s.CY/\s.CY<=2147483647:=AgI h
set_option maxHeartbeats 1000000 in
theorem To (s:Sta) (slot:Int) (c:TC) (id:Int) (hsq:0<=s.seq/\s.seq<=255):FnW Tryz.prog 241 [.c (.ptr 100 0),AI id] [(100,.box (wcs s (.d (hds s.held)) (.row 102 s.seen.length) slot c)),(102,.row 123 2 (rowOf Sn.enc s.seen))] [100,102] (.tup []) [(100,.box (wcs (Dg s id) (.d (hds s.held)) (.row 102 s.seen.length) slot c)),(102,.row 123 2 (rowOf Sn.enc s.seen))]:=by
 intro r;simp only[Cg,List.map_cons,List.map_nil,List.cons_append,List.nil_append,Nat.reduceAdd];refine FnS.Bw (enters_of Tryz.func241 (by kernel_rfl) rfl) Tryz.func241 rfl Tryz.ntmps241 Tryz.results241 rfl (by first|rfl|(simp only[A0,wfL,AH,wfs,Ae,Ad];rfl)) rfl fun E=>?_
 refine AJ ?_
 repeat'(first|refine sB ?_|refine Ak rfl (by first|exact tt0|omega) ?_|(refine gC ?_;first|refine Aa (Q.Uq s.qu id) (gk rfl) rfl rfl rfl (by rfl) rfl (by exact Av) rfl ?_)|(refine gN ?_;first|refine Aj (gk rfl) rfl rfl ?_)|fail)
 refine Ao (Am (l:=[]) (b:=[(9100,.pin 100 (r 100)),(9102,.pin 102 (r 102)),(100,.box (wcs (Dg s id) (.d (hds s.held)) (.row 102 s.seen.length) slot c)),(102,.row 123 2 (rowOf Sn.enc s.seen))]) (fun n=>n) ?_ ?_ rfl (by(simp only[wfL,wfs,Ae,Ad];rfl))) (DG BQ .nil rfl (by exact⟨rfl,rfl,rfl,rfl,trivial⟩))
 all_goals repeat'(first|exact tt0|refine⟨⟨_,rfl,?_⟩,?_⟩|exact .pin rfl|exact .Bc rfl Ag|refine .box ?_|exact .nil|refine .cons ?_ ?_|exact .d|exact .row rfl rfl|fail)
set_option maxHeartbeats 2000000 in
theorem SI (s:Sta) (slot:Int) (c:TC) (AT:Bool) (hck:AQ s=0):FnW Tryz.prog 177 [.c (.ptr 100 0),AB AT] [(100,.box (wcs s (.d (hds s.held)) (.row 102 s.seen.length) slot c)),(102,.row 123 2 (rowOf Sn.enc s.seen))] [100,102] (.tup []) [(100,.box (wcs (CS s c AT) (.d (hds s.held)) (.row 102 s.seen.length) slot c)),(102,.row 123 2 (rowOf Sn.enc s.seen))]:=by
 obtain⟨_,_,_,_,_,hty,hr⟩:=Bf hck;have hr:=FH hr;have hty:=AgI hty;intro r;simp only[Cg,List.map_cons,List.map_nil,List.cons_append,List.nil_append,Nat.reduceAdd];refine FnS.Bw (enters_of Tryz.func177 (by kernel_rfl) rfl) Tryz.func177 rfl Tryz.ntmps177 Tryz.results177 rfl (by first|rfl|(simp only[A0,wfL,AH,wfs,Ae,Ad];rfl)) rfl fun E=>?_
 refine AJ ?_;have hpw:=(Ad3 (min (s.back+1) 5)).resolve_left (by omega) |>.resolve_left (by omega);have e1:(Bz s c).to=-1->CS s c AT=Dg s (Bz s c).id:=fun h=>AgZ h
 have e2:¬(Bz s c).to=-1->AT=true\/4<=Et s c->¬c.kind=3->CS s c AT=Dg s (Bz s c).id:=fun h h1 h2=>by rw[CS,AgY h,AgZ h1,TA,AgY h2]
 have e3:¬(Bz s c).to=-1->AT=true\/4<=Et s c->c.kind=3->CS s c AT={Dg s (Bz s c).id with back:=0,wait:=0}:=fun h h1 h2=>by rw[CS,AgY h,AgZ h1,TA,AgZ h2]
 have e4:¬(Bz s c).to=-1->AT=false->Et s c<4->¬c.kind=3->CS s c AT={s with Bl:=(Bz s c).id,tries:=Et s c}:=fun h h1 h2 h3=>by rw[CS,AgY h,AgY (by rw[h1];simp;omega),L5,AgY h3]
 have e5:¬(Bz s c).to=-1->AT=false->Et s c<4->c.kind=3->CS s c AT={s with Bl:=(Bz s c).id,tries:=Et s c,back:=min (s.back+1) 5,CY:=BS s.CY,wait:=BS s.CY/65536 % 2^(min (s.back+1) 5).toNat}:=fun h h1 h2 h3=>by rw[CS,AgY h,AgY (by rw[h1];simp;omega),L5,AgZ h3];rfl
 have t1:s.Bl=(Bz s c).id->Et s c=s.tries+1:=fun h=>AgZ h
 have t2:¬s.Bl=(Bz s c).id->Et s c=1:=fun h=>AgY h
 repeat'(first|(refine gR ?_;first|refine Ak rfl (by first|exact tt0|omega) ?_|(refine gC ?_;first|refine AF [100,102] (UF s slot c) (gk rfl) rfl (by(repeat'(first|exact .nil|refine .cons ?_ ?_|exact(KY (by simp) rfl .d (A9 (by simp) rfl rfl (fun _=>rfl)))))<;>fail) (by rfl) rfl (by rfl) rfl (by exact Av) rfl ?_|refine B4 (nmL []) [] [100,102] (To s slot c (Bz s c).id ⟨hr.2.2.1,hr.2.2.2.1⟩) (gk rfl) rfl rfl (by(repeat'(first|exact .nil|refine .cons ?_ ?_|exact .w (.c (.ptr rfl)) rfl|exact .r (.of0 (.c .d))))<;>fail) (by(repeat'(first|exact tt0|refine⟨⟨_,rfl,?_⟩,?_⟩|exact .Bc rfl Ag|refine .box ?_|exact .nil|refine .cons ?_ ?_|exact .d|exact .row rfl rfl))<;>fail) rfl rfl rfl (by rfl) rfl (by(simp only[A0,wfL,AH,wfs,Ae,Ad];rfl)) rfl rfl rfl (by(simp only[F5,List.map_cons,List.map_nil,Blk.ren,C.ren,Bp,BU,BT,gW,D1,nmL,Nat.reduceBEq,Bool.or_false,Bool.or_true,Bool.false_or,Bool.true_or,cond_true,cond_false,Nat.reduceMul,Nat.reduceAdd])<;>rfl) (by(simp only[AV.ren,AV.HQ,List.map_cons,List.map_nil,C.ren,gW,D1,nmL,Nat.reduceBEq,Bool.or_false,Bool.or_true,Bool.false_or,Bool.true_or,cond_true,cond_false,Nat.reduceMul,Nat.reduceAdd])<;>rfl) rfl ?_)|(refine gN ?_;first|refine Aj (gk rfl) rfl rfl ?_)|(refine Ax rfl ?_ ?_<;>intro h<;>have hq:=h<;>(try simp only[hqs] at hq)))|(refine gO ?_;first|refine De ?_|refine Ap (by kernel_rfl) ?_)|(refine gT ?_;first|refine B1 ?_|refine MA ?_)|(show VC _ (.seq _ _) _ _;(fail_if_success (show VC _ (.seq (.seq (.region 14 _ _) _) _) _ _));(fail_if_success (show VC _ (.seq (.region 14 _ _) _) _ _));refine BC ?_)|refine Bg ?_|refine Cp ?_|(show VC _ (.cond _ _ _) _ _;first|refine Ai rfl ?_|refine Ah rfl ?_|refine At rfl (by assumption) ?_|(refine Ay rfl ?_ ?_<;>intro h<;>have hq:=h<;>(try simp only[hqs] at hq)))|refine IZ ?_|refine EE ?_)
 ·rw[e1 hq];refine Ao (Am (l:=[]) (b:=[(9100,.pin 100 (r 100)),(9102,.pin 102 (r 102)),(100,.box (wcs (Dg s (Bz s c).id) (.d (hds s.held)) (.row 102 s.seen.length) slot c)),(102,.row 123 2 (rowOf Sn.enc s.seen))]) (fun n=>n) ?_ ?_ rfl (by(simp only[wfL,wfs,Ae,Ad];rfl))) (DG Ab .nil rfl (by repeat'(first|exact tt0|refine⟨rfl,?_⟩)))
  all_goals repeat'(first|exact tt0|refine⟨⟨_,rfl,?_⟩,?_⟩|exact .pin rfl|exact .Bc rfl Ag|refine .box ?_|exact .nil|refine .cons ?_ ?_|exact .d|exact .row rfl rfl|fail)
 ·rw[e2 (by assumption) (.inl (by assumption)) hq];refine Ao (Am (l:=[]) (b:=[(9100,.pin 100 (r 100)),(9102,.pin 102 (r 102)),(100,.box (wcs (Dg s (Bz s c).id) (.d (hds s.held)) (.row 102 s.seen.length) slot c)),(102,.row 123 2 (rowOf Sn.enc s.seen))]) (fun n=>n) ?_ ?_ rfl (by(simp only[wfL,wfs,Ae,Ad];rfl))) (DG Ab .nil rfl (by repeat'(first|exact tt0|refine⟨rfl,?_⟩)))
  all_goals repeat'(first|exact tt0|refine⟨⟨_,rfl,?_⟩,?_⟩|exact .pin rfl|exact .Bc rfl Ag|refine .box ?_|exact .nil|refine .cons ?_ ?_|exact .d|exact .row rfl rfl|fail)
 ·rw[e3 (by assumption) (.inl (by assumption)) hq];refine Ao (Am (l:=[]) (b:=[(9100,.pin 100 (r 100)),(9102,.pin 102 (r 102)),(100,.box (wcs {Dg s (Bz s c).id with back:=0,wait:=0} (.d (hds s.held)) (.row 102 s.seen.length) slot c)),(102,.row 123 2 (rowOf Sn.enc s.seen))]) (fun n=>n) ?_ ?_ rfl (by(simp only[wfL,wfs,Ae,Ad];rfl))) (DG Ab .nil rfl (by repeat'(first|exact tt0|refine⟨rfl,?_⟩)))
  all_goals repeat'(first|exact tt0|refine⟨⟨_,rfl,?_⟩,?_⟩|exact .pin rfl|exact .Bc rfl Ag|refine .box ?_|exact .nil|refine .cons ?_ ?_|exact .d|exact .row rfl rfl|fail)
 ·have ht:=t1 (by assumption);rw[e2 (by assumption) (.inr (by omega)) hq];refine Ao (Am (l:=[]) (b:=[(9100,.pin 100 (r 100)),(9102,.pin 102 (r 102)),(100,.box (wcs (Dg s (Bz s c).id) (.d (hds s.held)) (.row 102 s.seen.length) slot c)),(102,.row 123 2 (rowOf Sn.enc s.seen))]) (fun n=>n) ?_ ?_ rfl (by(simp only[wfL,wfs,Ae,Ad];rfl))) (DG Ab .nil rfl (by repeat'(first|exact tt0|refine⟨rfl,?_⟩)))
  all_goals repeat'(first|exact tt0|refine⟨⟨_,rfl,?_⟩,?_⟩|exact .pin rfl|exact .Bc rfl Ag|refine .box ?_|exact .nil|refine .cons ?_ ?_|exact .d|exact .row rfl rfl|fail)
 ·have ht:=t1 (by assumption);rw[e3 (by assumption) (.inr (by omega)) hq];refine Ao (Am (l:=[]) (b:=[(9100,.pin 100 (r 100)),(9102,.pin 102 (r 102)),(100,.box (wcs {Dg s (Bz s c).id with back:=0,wait:=0} (.d (hds s.held)) (.row 102 s.seen.length) slot c)),(102,.row 123 2 (rowOf Sn.enc s.seen))]) (fun n=>n) ?_ ?_ rfl (by(simp only[wfL,wfs,Ae,Ad];rfl))) (DG Ab .nil rfl (by repeat'(first|exact tt0|refine⟨rfl,?_⟩)))
  all_goals repeat'(first|exact tt0|refine⟨⟨_,rfl,?_⟩,?_⟩|exact .pin rfl|exact .Bc rfl Ag|refine .box ?_|exact .nil|refine .cons ?_ ?_|exact .d|exact .row rfl rfl|fail)
 ·have ht:=t1 (by assumption);rw[e4 (by assumption) (by assumption) (by omega) hq,ht];refine Ao (Am (l:=[]) (b:=[(9100,.pin 100 (r 100)),(9102,.pin 102 (r 102)),(100,.box (wcs {s with Bl:=(Bz s c).id,tries:=s.tries+1} (.d (hds s.held)) (.row 102 s.seen.length) slot c)),(102,.row 123 2 (rowOf Sn.enc s.seen))]) (fun n=>n) ?_ ?_ rfl (by(simp only[wfL,wfs,Ae,Ad];rfl))) (DG Ab .nil rfl (by repeat'(first|exact tt0|refine⟨rfl,?_⟩)))
  all_goals repeat'(first|exact tt0|refine⟨⟨_,rfl,?_⟩,?_⟩|exact .pin rfl|exact .Bc rfl Ag|refine .box ?_|exact .nil|refine .cons ?_ ?_|exact .d|exact .row rfl rfl|fail)
 ·have ht:=t1 (by assumption);rw[e5 (by assumption) (by assumption) (by omega) hq,ht];obtain⟨t,hte⟩:∃t:Sta,t={s with Bl:=(Bz s c).id,tries:=s.tries+1,back:=min (s.back+1) 5}:=⟨_,rfl⟩;have hts:t.CY=s.CY:=by rw[hte]
  have htb:t.back=min (s.back+1) 5:=by rw[hte]
  rw[<-htb] at hpw;have eX:({s with Bl:=(Bz s c).id,tries:=s.tries+1,back:=min (s.back+1) 5,CY:=BS s.CY,wait:=BS s.CY/65536 % 2^(min (s.back+1) 5).toNat}:Sta)={t with CY:=BS t.CY,wait:=BS t.CY/65536 % 2^t.back.toNat}:=by rw[hte]
  rw[eX];refine VC.le (σ':=AS [(0,.c (.ptr 100 0))] [(9100,.pin 100 (r 100)),(9102,.pin 102 (r 102)),(100,.box (wcs {s with Bl:=(Bz s c).id,tries:=s.tries+1,back:=min (s.back+1) 5} (.d (hds s.held)) (.row 102 s.seen.length) slot c)),(102,.row 123 2 (rowOf Sn.enc s.seen))]) ?_ ?_
  ·refine Am (fun n=>n) ?_ ?_ rfl (by(simp only[wfL,wfs,Ae,Ad];rfl))
   all_goals repeat'(first|exact tt0|refine⟨⟨_,rfl,?_⟩,?_⟩|exact .c (.ptr rfl)|exact .pin rfl|exact .Bc rfl Ag|refine .box ?_|exact .nil|refine .cons ?_ ?_|exact .d|exact .row rfl rfl|fail)
  rw[<-hte]
  repeat'(first|refine sB ?_|refine Ak rfl (by first|exact tt0|omega) ?_|(refine gN ?_;first|refine Aj (gk rfl) rfl rfl ?_)|(refine gB ?_;first|refine Mc (gk rfl) rfl rfl (by omega) rfl (by omega) ?_)|refine Ap (by kernel_rfl) ?_|fail)
  refine Ao (Am (l:=[]) (b:=[(9100,.pin 100 (r 100)),(9102,.pin 102 (r 102)),(100,.box (wcs {t with CY:=BS t.CY,wait:=BS t.CY/65536 % 2^t.back.toNat} (.d (hds s.held)) (.row 102 s.seen.length) slot c)),(102,.row 123 2 (rowOf Sn.enc s.seen))]) (fun n=>n) ?_ ?_ rfl (by(simp only[wfL,wfs,Ae,Ad];rfl))) (DG BQ .nil rfl (by exact⟨rfl,rfl,rfl,rfl,trivial⟩))
  all_goals repeat'(first|exact tt0|refine⟨⟨_,rfl,?_⟩,?_⟩|exact .pin rfl|exact .Bc rfl Ag|refine .box ?_|exact .nil|refine .cons ?_ ?_|exact .d|exact .row rfl rfl|fail)
  exact AdA (by rw[Int.one_mul];rfl)
 ·rw[e2 (by assumption) (.inl (by assumption)) hq];refine Ao (Am (l:=[]) (b:=[(9100,.pin 100 (r 100)),(9102,.pin 102 (r 102)),(100,.box (wcs (Dg s (Bz s c).id) (.d (hds s.held)) (.row 102 s.seen.length) slot c)),(102,.row 123 2 (rowOf Sn.enc s.seen))]) (fun n=>n) ?_ ?_ rfl (by(simp only[wfL,wfs,Ae,Ad];rfl))) (DG Ab .nil rfl (by repeat'(first|exact tt0|refine⟨rfl,?_⟩)))
  all_goals repeat'(first|exact tt0|refine⟨⟨_,rfl,?_⟩,?_⟩|exact .pin rfl|exact .Bc rfl Ag|refine .box ?_|exact .nil|refine .cons ?_ ?_|exact .d|exact .row rfl rfl|fail)
 ·rw[e3 (by assumption) (.inl (by assumption)) hq];refine Ao (Am (l:=[]) (b:=[(9100,.pin 100 (r 100)),(9102,.pin 102 (r 102)),(100,.box (wcs {Dg s (Bz s c).id with back:=0,wait:=0} (.d (hds s.held)) (.row 102 s.seen.length) slot c)),(102,.row 123 2 (rowOf Sn.enc s.seen))]) (fun n=>n) ?_ ?_ rfl (by(simp only[wfL,wfs,Ae,Ad];rfl))) (DG Ab .nil rfl (by repeat'(first|exact tt0|refine⟨rfl,?_⟩)))
  all_goals repeat'(first|exact tt0|refine⟨⟨_,rfl,?_⟩,?_⟩|exact .pin rfl|exact .Bc rfl Ag|refine .box ?_|exact .nil|refine .cons ?_ ?_|exact .d|exact .row rfl rfl|fail)
 ·have ht:=t2 (by assumption);rw[e4 (by assumption) (by assumption) (by omega) hq,ht];refine Ao (Am (l:=[]) (b:=[(9100,.pin 100 (r 100)),(9102,.pin 102 (r 102)),(100,.box (wcs {s with Bl:=(Bz s c).id,tries:=1} (.d (hds s.held)) (.row 102 s.seen.length) slot c)),(102,.row 123 2 (rowOf Sn.enc s.seen))]) (fun n=>n) ?_ ?_ rfl (by(simp only[wfL,wfs,Ae,Ad];rfl))) (DG Ab .nil rfl (by repeat'(first|exact tt0|refine⟨rfl,?_⟩)))
  all_goals repeat'(first|exact tt0|refine⟨⟨_,rfl,?_⟩,?_⟩|exact .pin rfl|exact .Bc rfl Ag|refine .box ?_|exact .nil|refine .cons ?_ ?_|exact .d|exact .row rfl rfl|fail)
 ·have ht:=t2 (by assumption);rw[e5 (by assumption) (by assumption) (by omega) hq,ht];obtain⟨t,hte⟩:∃t:Sta,t={s with Bl:=(Bz s c).id,tries:=1,back:=min (s.back+1) 5}:=⟨_,rfl⟩;have hts:t.CY=s.CY:=by rw[hte]
  have htb:t.back=min (s.back+1) 5:=by rw[hte]
  rw[<-htb] at hpw;have eX:({s with Bl:=(Bz s c).id,tries:=1,back:=min (s.back+1) 5,CY:=BS s.CY,wait:=BS s.CY/65536 % 2^(min (s.back+1) 5).toNat}:Sta)={t with CY:=BS t.CY,wait:=BS t.CY/65536 % 2^t.back.toNat}:=by rw[hte]
  rw[eX];refine VC.le (σ':=AS [(0,.c (.ptr 100 0))] [(9100,.pin 100 (r 100)),(9102,.pin 102 (r 102)),(100,.box (wcs {s with Bl:=(Bz s c).id,tries:=1,back:=min (s.back+1) 5} (.d (hds s.held)) (.row 102 s.seen.length) slot c)),(102,.row 123 2 (rowOf Sn.enc s.seen))]) ?_ ?_
  ·refine Am (fun n=>n) ?_ ?_ rfl (by(simp only[wfL,wfs,Ae,Ad];rfl))
   all_goals repeat'(first|exact tt0|refine⟨⟨_,rfl,?_⟩,?_⟩|exact .c (.ptr rfl)|exact .pin rfl|exact .Bc rfl Ag|refine .box ?_|exact .nil|refine .cons ?_ ?_|exact .d|exact .row rfl rfl|fail)
  rw[<-hte]
  repeat'(first|refine sB ?_|refine Ak rfl (by first|exact tt0|omega) ?_|(refine gN ?_;first|refine Aj (gk rfl) rfl rfl ?_)|(refine gB ?_;first|refine Mc (gk rfl) rfl rfl (by omega) rfl (by omega) ?_)|refine Ap (by kernel_rfl) ?_|fail)
  refine Ao (Am (l:=[]) (b:=[(9100,.pin 100 (r 100)),(9102,.pin 102 (r 102)),(100,.box (wcs {t with CY:=BS t.CY,wait:=BS t.CY/65536 % 2^t.back.toNat} (.d (hds s.held)) (.row 102 s.seen.length) slot c)),(102,.row 123 2 (rowOf Sn.enc s.seen))]) (fun n=>n) ?_ ?_ rfl (by(simp only[wfL,wfs,Ae,Ad];rfl))) (DG BQ .nil rfl (by exact⟨rfl,rfl,rfl,rfl,trivial⟩))
  all_goals repeat'(first|exact tt0|refine⟨⟨_,rfl,?_⟩,?_⟩|exact .pin rfl|exact .Bc rfl Ag|refine .box ?_|exact .nil|refine .cons ?_ ?_|exact .d|exact .row rfl rfl|fail)
  exact AdA (by rw[Int.one_mul];rfl)
abbrev MV:List DV->DV->Prop:=fun ds r=>∃x y:Sn,ds=[.agg x.enc,.agg y.enc]/\r=.d (.int .i64 (Hf x.node y.node))
theorem HN (l:List Sn) (y:Sn) (hl:l.length<=1000000):FnS Tryz.prog 247 [AD (sns l),snA y,.clo MV] [] (.tup [AI (bsK Sn.node l y.node),AB (fdK Sn.node l y.node)]) []:=by
 refine fb Tryz.func247 (by kernel_rfl) rfl Tryz.ntmps247 Tryz.results247 rfl rfl rfl rfl fun E hS=>?_
 repeat'(first|refine sC ?_|refine Ak rfl (by exact tt0) ?_|fail)
 refine AK (ι:=Nat×Nat) (fun p=>AS [(0,AD (sns l)),(2,.clo MV),(4,.c (.ptr 4 0)),(8,AI l.length),(9,AI p.1),(10,AI p.2)] [(4,.box y.cs)])
  (fun p=>p.1<=p.2/\p.2<=l.length/\bs (fun i=>decide ((l.getD i default).node<y.node)) p.1 p.2=bsK Sn.node l y.node) (fun p=>p.2-p.1) (0,l.length) ⟨Ag1 _,Ag0 _,rfl⟩ ?_ ?_
 ·refine lg ?_ ?_ rfl (by rfl)
  all_goals repeat'(first|exact tt0|refine⟨⟨_,rfl,?_⟩,?_⟩|exact .c .d|exact .clo|exact .c (.ptr rfl)|exact .Bs rfl rfl|fail)
 ·rintro⟨i,j⟩ ⟨h1,h2,h3⟩;dsimp only at h1 h2 h3 ⊢
  repeat'(first|refine sC ?_|refine Ak rfl (by first|exact tt0|omega) ?_|(refine gC ?_;first|refine E2 (⟨_,_,rfl,rfl⟩) (gk rfl) rfl rfl rfl rfl ?_)|(refine gI ?_;first|refine Au (gk rfl) rfl rfl rfl rfl rfl (by omega) rfl ?_|refine DA (gk rfl) rfl rfl rfl rfl (by omega) rfl ?_)|(refine gV ?_;first|refine A4 (gk rfl) rfl ⟨_,rfl⟩ rfl (by first|exact wrap_i64 (by omega)|exact wrap_u64 (by omega)) rfl ?_)|(refine gB ?_;first|refine Nu (m:=1) (gk rfl) rfl rfl rfl (by decide) rfl ?_)|(refine Ax rfl ?_ ?_<;>intro h<;>have hq:=h<;>(try simp only[hqs] at hq))|refine Ap (by kernel_rfl) ?_|(refine gD ?_;first|(refine Ay rfl ?_ ?_<;>intro h<;>have hq:=h<;>(try simp only[hqs] at hq)))|fail)
  ·have e:(((i:Int)+(j:Int))/2^1).toNat=(i+j)/2:=by omega
   rw[e] at hq;refine⟨((i+j)/2+1,j),⟨by dsimp only;omega,h2,?_⟩,by dsimp only;omega,?_⟩
   ·rw[<-h3]
    conv=>rhs;rw[bs,AgZ (by omega)]
    rw[AgZ];exact Agj (EP.1 hq)
   ·dsimp only;refine lg ?_ ?_ rfl (by rfl)
    all_goals repeat'(first|exact tt0|refine⟨⟨_,rfl,?_⟩,?_⟩|exact .c .d|exact .clo|exact .c (.ptr rfl)|exact .Bs rfl rfl|fail)
  ·have e:(((i:Int)+(j:Int))/2^1).toNat=(i+j)/2:=by omega
   rw[e] at hq;refine⟨(i,(i+j)/2),⟨by dsimp only;omega,by dsimp only;omega,?_⟩,by dsimp only;omega,?_⟩
   ·rw[<-h3]
    conv=>rhs;rw[bs,AgZ (by omega)]
    rw[AgY];rw[Agl,<-EP];exact Int.not_lt.2 hq
   ·dsimp only;refine lg ?_ ?_ rfl (by rfl)
    all_goals repeat'(first|exact tt0|refine⟨⟨_,rfl,?_⟩,?_⟩|exact .c .d|exact .clo|exact .c (.ptr rfl)|exact .Bs rfl rfl|fail)
  all_goals(have e0:bsK Sn.node l y.node=i:=by
             rw[<-h3,bs,AgY (by omega)])
  all_goals refine CA Ab rfl rfl (by rw[e0]) ?_
  ·rw[fdK,e0,Agj (p:=i<l.length) (by omega),Bool.true_and];exact congrArg D.bool (decide_eq_decide.2 KN.symm)
  ·rw[fdK,e0,Agk (p:=i<l.length) (by omega)];rfl
theorem Qr (x y:Sn):FnS Tryz.prog 248 [snA x,snA y] [] (AI (Hf x.node y.node)) []:=by
 refine fb Tryz.func248 (by kernel_rfl) rfl Tryz.ntmps248 Tryz.results248 rfl rfl rfl rfl fun E hS=>?_
 repeat'(first|refine sB ?_|refine Ak rfl (by exact tt0) ?_|(refine gC ?_;first|refine Aa (GS _ _) (gk rfl) rfl rfl rfl (by rfl) rfl (by exact Av) rfl ?_)|fail)
 all_goals exact AG Ab rfl rfl
theorem LQ {σ:St} {L:List Nat}:AR Tryz.prog σ L (.fnc 248 []) (.clo MV):=
 .fnc .nil (enters_of Tryz.func248 (by kernel_rfl) rfl) (by rintro _ _ ⟨x,t,rfl,rfl⟩;exact⟨rfl,Qr x t⟩)
theorem XP (l:List Sn) (x:Sn):FnS Tryz.prog 292 [AD (sns l),snA x] [] (AI (oI (Fs l fun y=>decide (x=y)))) []:=by
 refine fb Tryz.func292 (by kernel_rfl) rfl Tryz.ntmps292 Tryz.results292 rfl rfl rfl rfl fun E hS=>?_
 refine B9 (t:=0) rfl fun hb=>?_
 repeat'(first|refine sC ?_|refine Ak rfl (by exact tt0) ?_|fail)
 refine AK (ι:=Nat) (fun k=>AS [(0,AD (sns l)),(3,.c (.ptr 3 0)),(7,AI l.length),(8,AI k)] [(3,.box x.cs)]) (fun k=>k<=l.length/\∀i,i<k->decide (x=l.getD i default)=false) (fun k=>l.length-k) 0 ⟨Ag1 _,fun i hi=>absurd hi (AgW _)⟩ ?_ ?_
 ·refine lg ?_ ?_ rfl (by rfl)
  all_goals repeat'(first|exact tt0|refine⟨⟨_,rfl,?_⟩,?_⟩|exact .c .d|exact .c (.ptr rfl)|exact .Bs rfl rfl|fail)
 ·intro k hk
  repeat'(first|refine sC ?_|refine Ak rfl (by first|exact tt0|omega) ?_|(refine gI ?_;first|refine Au (gk rfl) rfl rfl rfl rfl rfl (by omega) rfl ?_)|(refine gB ?_;first|refine Zm (gk rfl) rfl rfl rfl rfl rfl rfl rfl ?_)|refine Ap (by kernel_rfl) ?_|(refine gD ?_;first|(refine Ay rfl ?_ ?_<;>intro h<;>have hq:=h<;>(try simp only[hqs] at hq)))|fail)
  ·refine AG Ab rfl ?_;rw[Ey (l:=l) (p:=fun y=>decide (x=y)) hk.2 (by omega) (Agj (AeF hq))];rfl
  ·refine⟨k+1,⟨by omega,fun i hi=>?_⟩,by omega,?_⟩
   ·by_cases hik:i<k
    ·exact hk.2 i hik
    ·have:i=k:=by omega
     subst this;exact Agk fun e=>hq (AeE e)
   ·refine lg ?_ ?_ rfl (by rfl)
    all_goals repeat'(first|exact tt0|refine⟨⟨_,rfl,?_⟩,?_⟩|exact .c .d|exact .c (.ptr rfl)|exact .Bs rfl rfl|fail)
  ·refine AG Ab rfl ?_;have:k=l.length:=by omega
   subst this;rw[DR (l:=l) (p:=fun y=>decide (x=y)) hk.2];rfl
theorem KJ (l:List Sn) (x:Sn):FnS Tryz.prog 246 [AD (sns l),snA x] [] (AB (l.any fun y=>decide (x=y))) []:=by
 refine fb Tryz.func246 (by kernel_rfl) rfl Tryz.ntmps246 Tryz.results246 rfl rfl rfl rfl fun E hS=>?_
 repeat'(first|refine sB ?_|refine Ak rfl (by exact tt0) ?_|(refine gC ?_;first|refine Aa (XP l x) (gk rfl) rfl rfl rfl (by rfl) rfl (by exact Av) rfl ?_)|fail)
 all_goals exact Aw Ab rfl (E9 _ _).symm
instance Afu:Overlaps Tryz.prog 293:=
 ⟨38,4,123,2,AM.slice Tryz.YJ rfl,fun w=>AM.Bh Tryz.Ut w,fun args w=>run_callFunc_extern Tryz.func293 (by kernel_rfl) (by kernel_rfl) (by kernel_rfl) (by kernel_rfl) args w⟩
abbrev Sn1 (x:Sn):D:=.rd 1 2 fun _ j=>(Sn.enc x).getD j .Db
theorem LN (l:List Sn) (i:Nat) (x:Sn):rowOf Sn.enc (Bq l i x)=List.take i (rowOf Sn.enc l)++(Sn.enc x).map C.d :: List.drop i (rowOf Sn.enc l):=by
 rw[Bq,AZ,CN,EA]
 rfl
theorem Vt (l:List Sn) (i:Nat) (x:Sn) (hl:l.length<=100000) (hi:i<=l.length):FnS Tryz.prog 249 [.c (.row 0 l.length),AI i,AD (Sn1 x)] [(0,.row 123 2 (rowOf Sn.enc l))]
  (.c (.row 1 (l.length+1))) [(1,.row 123 2 (rowOf Sn.enc (Bq l i x)))]:=by
 refine FnS.Bw (enters_of Tryz.func249 (by kernel_rfl) rfl) Tryz.func249 rfl Tryz.ntmps249 Tryz.results249 rfl (by first|rfl|(simp only[A0,wfL,AH,wfs,Ae,Ad];rfl)) rfl fun E=>?_
 refine AJ ?_
 repeat'(first|refine sR ?_|refine Ak rfl (by exact tt0) ?_|(refine gE ?_;first|refine BB (gk rfl) rfl rfl (by exact Al.symm) rfl rfl ?_)|(refine gA ?_;first|refine Be (gk rfl) rfl rfl rfl (by exact Al.symm) (by exact .rd) rfl rfl rfl (by(try dsimp only);omega) rfl rfl ?_)|(show VR _ _ _ (⟨_,.slice _ _ _ _ _,_,_,_,_⟩ :: _) _ _ _;first|refine Bi (gk rfl) rfl rfl (by exact .row) rfl rfl (by exact .int rfl rfl) (by exact .no) (by omega) (by(simp only[lns];omega)) (by(simp only[lns];omega)) rfl ?_)|refine sq 8 rfl ?_|(refine gD ?_;first|refine Ah rfl ?_|(refine Ay rfl ?_ ?_<;>intro h<;>have hq:=h<;>(try simp only[hqs] at hq)))|fail)
 ·have e:i=l.length:=by omega
  subst e;refine Ao (Am (l:=[(6,.c (.row 1 (l.length+1)))]) (b:=[(1,.row 123 2 (rowOf Sn.enc (Bq l l.length x)))]) (fun n=>if n=1 then 25 else n) ⟨⟨_,rfl,.c (.row rfl rfl)⟩,trivial⟩
   ⟨⟨_,rfl,.Bc ?_ Ag⟩,trivial⟩ rfl (by simp only[wfL,wfs];rfl)) (Bn Ab rfl rfl)
  rw[Bq,List.take_length,List.drop_length,AZ]
  rfl
 ·refine En (nm:=0) rfl (E3 (by omega)) fun cp spare hcp hmax=>?_
  rw[Al] at hcp
  repeat'(first|refine sR ?_|refine Ak rfl (by first|exact tt0|omega) ?_|(refine gC ?_;first|refine FA (gk rfl) rfl rfl rfl (by exact .full) (by omega) rfl rfl rfl ?_)|(refine gA ?_;first|refine Dk (gk rfl) rfl rfl rfl rfl rfl rfl rfl rfl rfl rfl (by omega) (by(simp only[lns];omega)) (by omega) (by(try dsimp only);omega) rfl rfl ?_)|(show VR _ _ _ (⟨_,.slice _ _ _ _ _,_,_,_,_⟩ :: _) _ _ _;first|refine B8 (gk rfl) rfl rfl (by exact .full) rfl rfl (by first|exact .no|exact .int rfl rfl) (by omega) (by omega) rfl ?_|refine Bi (gk rfl) rfl rfl (by exact .full) rfl rfl (by exact .int rfl rfl) (by exact .no) (by omega) (by omega) (by omega) rfl ?_)|(show VR _ _ _ (⟨_,.call ⟨.builtin .copy,_,_⟩,_,_,_,_⟩ :: _) _ _ _;first|refine Gc (gk rfl) rfl rfl (by exact .sub) rfl (by first|exact .src .rd|exact .tail rfl (by(simp only[lns];omega)) (by omega)) rfl rfl rfl (by(simp only[lns];omega)) (by omega) rfl ?_)|(show VR _ _ _ (⟨_,.call ⟨.builtin .cap,_,_⟩,_,_,_,_⟩ :: _) _ _ _;first|refine FC (gk rfl) rfl rfl rfl rfl ?_)|refine Ap (by kernel_rfl) ?_|refine sq 10 rfl ?_|(refine gD ?_;first|refine Ai rfl ?_|(refine Ay rfl ?_ ?_<;>intro h<;>have hq:=h<;>(try simp only[hqs] at hq)))|fail)
  ·have hq1:((l.length:Int)+(1:Nat)-i).toNat=l.length+1-i:=by omega
   refine En (nm:=40) rfl (by
    intro e;have:=congrArg List.length e;rw[Agn,Agw] at this;change _+_=0 at this;omega) fun cp2 spare2 hcp2 hmax2=>?_
   rw[Agn,Agw,Ags,Al] at hcp2
   repeat'(first|refine sB ?_|refine Ak rfl (by first|exact tt0|omega) ?_|(show VR _ _ _ (⟨_,.slice _ _ _ _ _,_,_,_,_⟩ :: _) _ _ _;first|refine Bi (gk rfl) rfl rfl (by exact .full) rfl rfl (by exact .int rfl rfl) (by exact .no) (by omega) (by omega) (by omega) rfl ?_)|(show VR _ _ _ (⟨_,.call ⟨.builtin .copy,_,_⟩,_,_,_,_⟩ :: _) _ _ _;first|refine Gc (gk rfl) rfl rfl (by exact .sub) rfl (by first|exact .src .rd|exact .src (.sub rfl (by exact .full) (by(simp only[lns];omega)))) rfl rfl rfl (by(simp only[lns];omega)) (by omega) rfl ?_)|refine Ap (by kernel_rfl) ?_|fail)
   refine Ao (Am (l:=[(6,.c (.row 1 (l.length+1)))]) (b:=[(1,.row 123 2 (rowOf Sn.enc (Bq l i x)))]) (fun n=>if n=1 then 40 else n) ⟨⟨_,rfl,.c (.row rfl (by omega))⟩,trivial⟩
    ⟨⟨_,rfl,.Ji (l.length+1) ?_⟩,trivial⟩ rfl (by simp only[wfL,wfs];rfl)) (Bn Ab rfl rfl)
   rw[hq1,show min 1 (i+(l.length+1-i)-i)=1 by omega,show min (l.length-i) (i+(l.length+1-i)-(i+1))=l.length-i by omega];exact(JI (y:=(Sn.enc x).map C.d) (Al (enc:=Sn.enc)) (by omega) rfl).trans (LN l i x).symm
  ·refine Ao (Am (l:=[(6,.c (.row 1 (l.length+1)))]) (b:=[(1,.row 123 2 (rowOf Sn.enc (Bq l i x)))]) (fun n=>if n=1 then 0 else n) ⟨⟨_,rfl,.c (.row rfl rfl)⟩,trivial⟩
    ⟨⟨_,rfl,.Ji (l.length+1) ?_⟩,trivial⟩ rfl (by simp only[wfL,wfs];rfl)) (Bn Ab rfl rfl)
   rw[show min 1 (l.length+1-i)=1 by omega,show min (l.length+1-i) (l.length+1-(i+1))=l.length-i by omega];exact(JH (y:=(Sn.enc x).map C.d) (Al (enc:=Sn.enc)) (by omega)).trans (LN l i x).symm
def HL (f:Fr):Sn:=⟨f.source,f.seq⟩
def SR (s:Sta) (f:Fr):List Sn:=Nq Sn.node s.seen (HL f)
def AbC (s:Sta) (f:Fr):Bool:=match OH s.held f.Cb with|none=>true|some i=>decide ((s.held.getD i default).frame≠f.number)
def Ad8 (s:Sta) (f:Fr):Bool:=!s.seen.any fun y=>decide (HL f=y)
def B7 (s:Sta) (f:Fr):Sta×Up:=
 if Ua f s.tb.node=false\/f.kind=2 then(s,zUp)
 else if f.kind=1 then(s,T7 f (AbC s f))
 else if f.kind=4/\f.target=s.tb.node then({s with seen:=SR s f},T7 f (Ad8 s f))
 else(s,T7 f true)
theorem NS {l:List Sn} (h:Hp l=true):Nr Sn.node l:=Mu fun i hi h0=>(Mp h i hi).2.2.2.2 h0
set_option maxHeartbeats 4000000 in
theorem C6 (s:Sta) (slot:Int) (c:TC) (f:Fr) (hsn:Hp s.seen=true):FnW Tryz.prog 179 [.c (.ptr 100 0),frA f] [(100,.box (wcs s (.d (hds s.held)) (.row 102 s.seen.length) slot c)),(102,.row 123 2 (rowOf Sn.enc s.seen))] [100] (upA (B7 s f).2) [(100,.box (wcs (B7 s f).1 (.d (hds s.held)) (.row 103 (B7 s f).1.seen.length) slot c)),(103,.row 123 2 (rowOf Sn.enc (B7 s f).1.seen))]:=by
 have hsl:=J4 hsn;have hri:=NS hsn;have hbs:=(Ic hri (HL f).node).1;have hbs':bsK Sn.node s.seen (HL f).node<=s.seen.length:=hbs;have hud:=PL (x:=HL f) hri;intro r;simp only[Cg,List.map_cons,List.map_nil,List.cons_append,List.nil_append,Nat.reduceAdd];refine FnS.Bw (enters_of Tryz.func179 (by kernel_rfl) rfl) Tryz.func179 rfl Tryz.ntmps179 Tryz.results179 rfl (by first|rfl|(simp only[A0,wfL,AH,wfs,Ae,Ad];rfl)) rfl fun E=>?_
 refine AJ ?_;cases hfo:Ua f s.tb.node with
 |false=>
  have e:B7 s f=(s,zUp):=AgZ (.inl hfo);have hd:(!Ua f s.tb.node)=true:=by rw[hfo];rfl
  rw[e]
  repeat'(first|refine sB ?_|refine Ak rfl (by exact tt0) ?_|(refine gC ?_;first|refine Aa (FU f s.tb.node) (gk rfl) rfl rfl rfl (by rfl) rfl (by exact Av) rfl ?_)|(refine gN ?_;first|refine Aj (gk rfl) rfl rfl ?_)|refine Az rfl (by assumption) ?_|refine Ap (by kernel_rfl) ?_|(refine gD ?_;first|refine Ai rfl ?_)|fail)
  refine Ao (Am (l:=[(4,.c (.ptr 4 0))]) (b:=[(9100,.pin 100 (r 100)),(4,.box zUp.cs),(100,.box (wcs s (.d (hds s.held)) (.row 103 s.seen.length) slot c)),(103,.row 123 2 (rowOf Sn.enc s.seen))]) (fun n=>if n=103 then 102 else n) ?_ ?_ rfl (by(simp only[wfL,wfs,Ae,Ad];rfl))) (DG Ab (.agg rfl rfl rfl rfl .nil) rfl (by repeat'(first|exact tt0|refine⟨rfl,?_⟩)))
  all_goals repeat'(first|exact tt0|refine⟨⟨_,rfl,?_⟩,?_⟩|exact .c (.ptr rfl)|exact .Bs rfl rfl|exact .pin rfl|exact .Bc rfl Ag|refine .box ?_|exact .nil|refine .cons ?_ ?_|exact .d|exact .row rfl rfl|fail)
 |true=>
  have hd:(!Ua f s.tb.node)=false:=by rw[hfo];rfl
  by_cases h2:f.kind=2
  ·have e:B7 s f=(s,zUp):=AgZ (.inr h2);have hd2:decide (f.kind=2)=true:=Agj h2;rw[e]
   repeat'(first|refine sB ?_|refine Ak rfl (by exact tt0) ?_|(refine gC ?_;first|refine Aa (FU f s.tb.node) (gk rfl) rfl rfl rfl (by rfl) rfl (by exact Av) rfl ?_)|(refine gN ?_;first|refine Aj (gk rfl) rfl rfl ?_)|refine Az rfl (by assumption) ?_|refine Ap (by kernel_rfl) ?_|(refine gD ?_;first|refine Ai rfl ?_|refine At rfl (by assumption) ?_)|fail)
   refine Ao (Am (l:=[(4,.c (.ptr 4 0))]) (b:=[(9100,.pin 100 (r 100)),(4,.box zUp.cs),(100,.box (wcs s (.d (hds s.held)) (.row 103 s.seen.length) slot c)),(103,.row 123 2 (rowOf Sn.enc s.seen))]) (fun n=>if n=103 then 102 else n) ?_ ?_ rfl (by(simp only[wfL,wfs,Ae,Ad];rfl))) (DG Ab (.agg rfl rfl rfl rfl .nil) rfl (by repeat'(first|exact tt0|refine⟨rfl,?_⟩)))
   all_goals repeat'(first|exact tt0|refine⟨⟨_,rfl,?_⟩,?_⟩|exact .c (.ptr rfl)|exact .Bs rfl rfl|exact .pin rfl|exact .Bc rfl Ag|refine .box ?_|exact .nil|refine .cons ?_ ?_|exact .d|exact .row rfl rfl|fail)
  have hd2:decide (f.kind=2)=false:=Agk h2;have e0:B7 s f=if f.kind=1 then(s,T7 f (AbC s f)) else if f.kind=4/\f.target=s.tb.node then({s with seen:=SR s f},T7 f (Ad8 s f)) else(s,T7 f true):=by
   rw[B7,AgY (by rintro(h|h);rw[hfo] at h;cases h;exact h2 h)]
  by_cases h1:f.kind=1
  ·have hd1:decide (f.kind=1)=true:=Agj h1;rw[AgZ h1] at e0;rw[e0];have hho:=IP s slot c f.Cb;cases hf:OH s.held f.Cb with
   |none=>
    have e1:AbC s f=true:=by rw[AbC,hf]
    rw[hf] at hho;have hho':FnS Tryz.prog 175 [wP s slot c,AI f.Cb] [] (AI (-1)) []:=hho;rw[e1]
    repeat'(first|refine sC ?_|refine Ak rfl (by exact tt0) ?_|(refine gC ?_;first|refine Aa (FU f s.tb.node) (gk rfl) rfl rfl rfl (by rfl) rfl (by exact Av) rfl ?_|refine AF [100,102] (hho') (gk rfl) rfl (by(repeat'(first|exact .nil|refine .cons ?_ ?_|exact .of0 (.c .d)|exact(KY (by simp) rfl .d (A9 (by simp) rfl rfl (fun _=>rfl)))))<;>fail) (by rfl) rfl (by rfl) rfl (by exact Av) rfl ?_)|(refine gN ?_;first|refine Aj (gk rfl) rfl rfl ?_)|refine Az rfl (by assumption) ?_|refine Ap (by kernel_rfl) ?_|(refine gD ?_;first|refine Ai rfl ?_|refine Ah rfl ?_|refine At rfl (by assumption) ?_)|fail)
    refine Ao (Am (l:=[(4,.c (.ptr 4 0))]) (b:=[(9100,.pin 100 (r 100)),(4,.box (T7 f true).cs),(100,.box (wcs s (.d (hds s.held)) (.row 103 s.seen.length) slot c)),(103,.row 123 2 (rowOf Sn.enc s.seen))]) (fun n=>if n=103 then 102 else n) ?_ ?_ rfl (by(simp only[wfL,wfs,Ae,Ad];rfl))) (DG Ab (.agg rfl rfl rfl rfl .nil) rfl (by repeat'(first|exact tt0|refine⟨rfl,?_⟩)))
    all_goals repeat'(first|exact tt0|refine⟨⟨_,rfl,?_⟩,?_⟩|exact .c (.ptr rfl)|exact .Bs rfl rfl|exact .pin rfl|exact .Bc rfl Ag|refine .box ?_|exact .nil|refine .cons ?_ ?_|exact .d|exact .row rfl rfl|fail)
   |some i=>
    have e1:AbC s f=decide ((s.held.getD i default).frame≠f.number):=by rw[AbC,hf]
    obtain⟨hi,_,_⟩:=BJ hf;rw[hf] at hho;have hho':FnS Tryz.prog 175 [wP s slot c,AI f.Cb] [] (AI (i:Nat)) []:=hho
    repeat'(first|refine sC ?_|refine Ak rfl (by exact tt0) ?_|(refine gC ?_;first|refine Aa (FU f s.tb.node) (gk rfl) rfl rfl rfl (by rfl) rfl (by exact Av) rfl ?_|refine AF [100,102] (hho') (gk rfl) rfl (by(repeat'(first|exact .nil|refine .cons ?_ ?_|exact .of0 (.c .d)|exact(KY (by simp) rfl .d (A9 (by simp) rfl rfl (fun _=>rfl)))))<;>fail) (by rfl) rfl (by rfl) rfl (by exact Av) rfl ?_)|(refine gI ?_;first|refine Au (gk rfl) rfl rfl rfl rfl rfl (by omega) rfl ?_)|(refine gN ?_;first|refine Aj (gk rfl) rfl rfl ?_)|refine Az rfl (by assumption) ?_|refine Ap (by kernel_rfl) ?_|(refine gD ?_;first|refine Ai rfl ?_|refine Ah rfl ?_|refine At rfl (by assumption) ?_)|fail)
    all_goals first
     |(exfalso;omega)
     |skip
    rw[e1];refine Ao (Am (l:=[(4,.c (.ptr 4 0))]) (b:=[(9100,.pin 100 (r 100)),(4,.box (T7 f (decide ((s.held.getD i default).frame≠f.number))).cs),(100,.box (wcs s (.d (hds s.held)) (.row 103 s.seen.length) slot c)),(103,.row 123 2 (rowOf Sn.enc s.seen))]) (fun n=>if n=103 then 102 else n) ?_ ?_ rfl (by(simp only[wfL,wfs,Ae,Ad];rfl))) (DG Ab (.agg rfl rfl rfl rfl .nil) rfl (by repeat'(first|exact tt0|refine⟨rfl,?_⟩)))
    all_goals repeat'(first|exact tt0|refine⟨⟨_,rfl,?_⟩,?_⟩|exact .c (.ptr rfl)|exact .Bs rfl rfl|exact .pin rfl|exact .Bc rfl Ag|refine .box ?_|exact .nil|refine .cons ?_ ?_|exact .d|exact .row rfl rfl|fail)
  have hd1:decide (f.kind=1)=false:=Agk h1;rw[AgY h1] at e0;by_cases h4:f.kind=4/\f.target=s.tb.node
  ·have hd4:decide (f.kind=4)=true:=Agj h4.1;have hd5:decide (f.target=s.tb.node)=true:=Agj h4.2;rw[AgZ h4] at e0;rw[e0];cases hfd:fdK Sn.node s.seen (HL f).node with
   |true=>
    have hlt:bsK Sn.node s.seen (HL f).node<s.seen.length:=by
     simp only[fdK,Agt,Agl] at hfd;exact hfd.1
    have e2:SR s f=s.seen.set (bsK Sn.node s.seen (HL f).node) (HL f):=by rw[SR,hud,AgZ hfd]
    rw[e2]
    repeat'(first|refine sC ?_|refine Ak rfl (by exact tt0) ?_|(refine gC ?_;first|refine Aa (FU f s.tb.node) (gk rfl) rfl rfl rfl (by rfl) rfl (by exact Av) rfl ?_|refine AF [102] (KJ s.seen (HL f)) (gk rfl) rfl (by(repeat'(first|exact .nil|refine .cons ?_ ?_|exact .of0 (.c (A9 (by simp) rfl (by rfl) (fun _=>rfl)))|refine .of0 (.agg ?_)|exact .d))<;>fail) (by rfl) rfl (by rfl) rfl (by exact Av) rfl ?_|refine AF [102] (HN s.seen (HL f) (by omega)) (gk rfl) rfl (by(repeat'(first|exact .nil|refine .cons ?_ ?_|exact(LQ)|exact .of0 (.c (A9 (by simp) rfl (by rfl) (fun _=>rfl)))|refine .of0 (.agg ?_)|exact .d))<;>fail) (by rfl) rfl (by rfl) rfl (by exact Av) rfl ?_)|(refine gI ?_;first|refine BG (gk rfl) rfl rfl rfl rfl rfl rfl (by omega) (by omega) rfl ?_)|(refine gN ?_;first|refine Aj (gk rfl) rfl rfl ?_)|(refine gS ?_;first|refine By (gk rfl) rfl rfl rfl (by omega) rfl rfl rfl ?_)|refine Az rfl (by assumption) ?_|refine Ap (by kernel_rfl) ?_|(refine gD ?_;first|refine Ai rfl ?_|refine Ah rfl ?_|refine At rfl (by assumption) ?_)|fail)
    refine Ao (Am (l:=[(4,.c (.ptr 4 0))]) (b:=[(9100,.pin 100 (r 100)),(4,.box (T7 f (Ad8 s f)).cs),(100,.box (wcs {s with seen:=s.seen.set (bsK Sn.node s.seen (HL f).node) (HL f)} (.d (hds s.held)) (.row 103 (s.seen.set (bsK Sn.node s.seen (HL f).node) (HL f)).length) slot c)),(103,.row 123 2 (rowOf Sn.enc (s.seen.set (bsK Sn.node s.seen (HL f).node) (HL f))))]) (fun n=>if n=103 then 102 else n) ?_ ?_ rfl (by(simp only[wfL,wfs,Ae,Ad];rfl))) (DG Ab (.agg rfl rfl rfl rfl .nil) rfl (by repeat'(first|exact tt0|refine⟨rfl,?_⟩)))
    all_goals repeat'(first|exact tt0|refine⟨⟨_,rfl,?_⟩,?_⟩|exact .c (.ptr rfl)|exact .Bs rfl rfl|exact .pin rfl|exact .Bc (DJ rfl) Ag|refine .box ?_|exact .nil|refine .cons ?_ ?_|exact .d|(refine .row rfl ?_;((try dsimp only);first|(simp only[lns]<;>omega));done)|fail)
   |false=>
    have e2:SR s f=Bq s.seen (bsK Sn.node s.seen (HL f).node) (HL f):=by rw[SR,hud,AgY (by rw[hfd];simp)]
    have hil:(Bq s.seen (bsK Sn.node s.seen (HL f).node) (HL f)).length=s.seen.length+1:=by simp[Bq];omega
    rw[e2]
    repeat'(first|refine sC ?_|refine Ak rfl (by exact tt0) ?_|(refine gC ?_;first|refine Aa (FU f s.tb.node) (gk rfl) rfl rfl rfl (by rfl) rfl (by exact Av) rfl ?_|refine AF [102] (KJ s.seen (HL f)) (gk rfl) rfl (by(repeat'(first|exact .nil|refine .cons ?_ ?_|exact .of0 (.c (A9 (by simp) rfl (by rfl) (fun _=>rfl)))|refine .of0 (.agg ?_)|exact .d))<;>fail) (by rfl) rfl (by rfl) rfl (by exact Av) rfl ?_|refine AF [102] (HN s.seen (HL f) (by omega)) (gk rfl) rfl (by(repeat'(first|exact .nil|refine .cons ?_ ?_|exact(LQ)|exact .of0 (.c (A9 (by simp) rfl (by rfl) (fun _=>rfl)))|refine .of0 (.agg ?_)|exact .d))<;>fail) (by rfl) rfl (by rfl) rfl (by exact Av) rfl ?_|refine Cy [108] (Vt s.seen (bsK Sn.node s.seen (HL f).node) (HL f) (by omega) hbs') (gk rfl) rfl rfl Ag rfl (by(repeat'(first|exact .nil|refine .cons ?_ ?_|exact .of0 (.c .d)|exact .of0 (.c (Gt (by decide) rfl rfl (by repeat'(first|exact tt0|refine⟨?_,?_⟩|rfl))))))<;>fail) rfl (by exact Ku (fun _=>rfl)) rfl (by(simp only[A0,wfL,AH,wfs,Ae,Ad];rfl)) rfl (by exact Bx) rfl ?_)|(refine gN ?_;first|refine Aj (gk rfl) rfl rfl ?_)|refine Az rfl (by assumption) ?_|refine Ap (by kernel_rfl) ?_|(refine gD ?_;first|refine Ai rfl ?_|refine Ah rfl ?_|refine At rfl (by assumption) ?_)|fail)
    rw[hil];refine Ao (Am (l:=[(4,.c (.ptr 4 0))]) (b:=[(9100,.pin 100 (r 100)),(4,.box (T7 f (Ad8 s f)).cs),(100,.box (wcs {s with seen:=Bq s.seen (bsK Sn.node s.seen (HL f).node) (HL f)} (.d (hds s.held)) (.row 103 (s.seen.length+1)) slot c)),(103,.row 123 2 (rowOf Sn.enc (Bq s.seen (bsK Sn.node s.seen (HL f).node) (HL f))))]) (fun n=>if n=103 then 109001 else n) ?_ ?_ rfl (by(simp only[wfL,wfs,Ae,Ad];rfl))) (DG Ab (.agg rfl rfl rfl rfl .nil) rfl (by repeat'(first|exact tt0|refine⟨rfl,?_⟩)))
    all_goals repeat'(first|exact tt0|refine⟨⟨_,rfl,?_⟩,?_⟩|exact .c (.ptr rfl)|exact .Bs rfl rfl|exact .pin rfl|exact .Bc rfl Ag|refine .box ?_|exact .nil|refine .cons ?_ ?_|exact .d|exact .row rfl rfl|fail)
  ·rw[AgY h4] at e0;rw[e0]
   repeat'(first|refine sC ?_|refine Ak rfl (by exact tt0) ?_|(refine gC ?_;first|refine Aa (FU f s.tb.node) (gk rfl) rfl rfl rfl (by rfl) rfl (by exact Av) rfl ?_)|(refine gN ?_;first|refine Aj (gk rfl) rfl rfl ?_)|refine Az rfl (by assumption) ?_|(refine Ax rfl ?_ ?_<;>intro h<;>have hq:=h<;>(try simp only[hqs] at hq))|refine Ap (by kernel_rfl) ?_|(refine gD ?_;first|refine Ah rfl ?_|refine At rfl (by assumption) ?_|(refine Ay rfl ?_ ?_<;>intro h<;>have hq:=h<;>(try simp only[hqs] at hq)))|fail)
   all_goals first
    |(exfalso;omega)
    |skip
   ·refine Ao (Am (l:=[(4,.c (.ptr 4 0))]) (b:=[(9100,.pin 100 (r 100)),(4,.box (T7 f true).cs),(100,.box (wcs s (.d (hds s.held)) (.row 103 s.seen.length) slot c)),(103,.row 123 2 (rowOf Sn.enc s.seen))]) (fun n=>if n=103 then 102 else n) ?_ ?_ rfl (by(simp only[wfL,wfs,Ae,Ad];rfl))) (DG Ab (.agg rfl rfl rfl rfl .nil) rfl (by repeat'(first|exact tt0|refine⟨rfl,?_⟩)))
    all_goals repeat'(first|exact tt0|refine⟨⟨_,rfl,?_⟩,?_⟩|exact .c (.ptr rfl)|exact .Bs rfl rfl|exact .pin rfl|exact .Bc rfl Ag|refine .box ?_|exact .nil|refine .cons ?_ ?_|exact .d|exact .row rfl rfl|fail)
   ·refine Ao (Am (l:=[(4,.c (.ptr 4 0))]) (b:=[(9100,.pin 100 (r 100)),(4,.box (T7 f true).cs),(100,.box (wcs s (.d (hds s.held)) (.row 103 s.seen.length) slot c)),(103,.row 123 2 (rowOf Sn.enc s.seen))]) (fun n=>if n=103 then 102 else n) ?_ ?_ rfl (by(simp only[wfL,wfs,Ae,Ad];rfl))) (DG Ab (.agg rfl rfl rfl rfl .nil) rfl (by repeat'(first|exact tt0|refine⟨rfl,?_⟩)))
    all_goals repeat'(first|exact tt0|refine⟨⟨_,rfl,?_⟩,?_⟩|exact .c (.ptr rfl)|exact .Bs rfl rfl|exact .pin rfl|exact .Bc rfl Ag|refine .box ?_|exact .nil|refine .cons ?_ ?_|exact .d|exact .row rfl rfl|fail)
def L8 (s:Sta) (c:TC):Sta:=if(G3 s).isSome=true/\c.kind=3 then{s with wait:=s.wait-1} else s
def Abt (s:Sta) (a:Ac):Sta:=match OH s.held a.Cb with
 |none=>s
 |some i=>{s with held:=s.held.set i {s.held.getD i default with AT:=Nq id (s.held.getD i default).AT a.target}}
def CJ (s:Sta) (slot:Int) (c:TC) (r:Rs):Sta×Up:=
 if(C2 s slot c).kind=1/\(C2 s slot c).BF=1 then(if r.AT=true then Abt s (C2 s slot c) else s,zUp)
 else if(C2 s slot c).kind=1 then(CS s c r.AT,zUp)
 else if(C2 s slot c).kind=2 then if r.heard=true then B7 (L8 s c) (KW r) else(L8 s c,zUp)
 else(s,zUp)
def EZ (s:Sta) (slot:Int) (r:Rs):Sta×Up×Int:=if AQ s≠0 then(noS,zUp,1) else if ¬(0<=slot/\slot<=109951162) then(noS,zUp,2) else((CJ s slot (atM s.tb slot).1 r).1,(CJ s slot (atM s.tb slot).1 r).2,0)
theorem Yb (s:Sta) (slot:Int) (r:Rs) (hck:¬AQ s=0):FnS Tryz.prog 130 [stA s,AI slot,rsA r] [] (.tup [stA noS,upA zUp,AI 1]) []:=by
 refine fb Tryz.func130 (by kernel_rfl) rfl Tryz.ntmps130 Tryz.results130 rfl rfl rfl rfl fun E hS=>?_
 refine AJ ?_
 repeat'(first|refine sB ?_|refine Ak rfl (by exact tt0) ?_|(refine gC ?_;first|refine Aa (NN s slot hck) (gk rfl) rfl rfl rfl (by rfl) rfl (by exact Av) rfl ?_)|(refine gD ?_;first|refine Ai rfl ?_)|fail)
 refine Ao (Am (l:=[(6,.c (.ptr 6 0)),(7,.c (.ptr 7 0)),(8,AI 1)]) (b:=[(6,.box noS.cs),(7,.box zUp.cs)]) (fun n=>n) ?_ ?_ rfl (by rfl)) (Ba Ab rfl rfl rfl rfl rfl rfl rfl rfl rfl rfl rfl rfl)
 all_goals repeat'(first|exact tt0|refine⟨⟨_,rfl,?_⟩,?_⟩|exact .c .d|exact .c (.ptr rfl)|exact .Bs rfl rfl|refine .box ?_|exact .nil|refine .cons ?_ ?_|exact .d|fail)
theorem TN (s:Sta) (slot:Int) (r:Rs) (hck:AQ s=0) (hs:¬(0<=slot/\slot<=109951162)):FnS Tryz.prog 130 [stA s,AI slot,rsA r] [] (.tup [stA noS,upA zUp,AI 2]) []:=by
 refine fb Tryz.func130 (by kernel_rfl) rfl Tryz.ntmps130 Tryz.results130 rfl rfl rfl rfl fun E hS=>?_
 refine AJ ?_
 repeat'(first|refine sB ?_|refine Ak rfl (by exact tt0) ?_|(refine gC ?_;first|refine Aa (J1 s slot hck hs) (gk rfl) rfl rfl rfl (by rfl) rfl (by exact Av) rfl ?_)|(refine gD ?_;first|refine Ai rfl ?_)|fail)
 refine Ao (Am (l:=[(6,.c (.ptr 6 0)),(7,.c (.ptr 7 0)),(8,AI 2)]) (b:=[(6,.box noS.cs),(7,.box zUp.cs)]) (fun n=>n) ?_ ?_ rfl (by rfl)) (Ba Ab rfl rfl rfl rfl rfl rfl rfl rfl rfl rfl rfl rfl)
 all_goals repeat'(first|exact tt0|refine⟨⟨_,rfl,?_⟩,?_⟩|exact .c .d|exact .c (.ptr rfl)|exact .Bs rfl rfl|refine .box ?_|exact .nil|refine .cons ?_ ?_|exact .d|fail)
theorem MR (s:Sta) (f:Fr):stA (B7 s f).1=.agg ((B7 s f).1.csR (.d (hds s.held)) (.d (sns (B7 s f).1.seen))):=by
 have h:(B7 s f).1.held=s.held:=by
  unfold B7
  repeat' split
  all_goals rfl
 rw[<-h];rfl
set_option maxHeartbeats 4000000 in
theorem V9 (s:Sta) (slot:Int) (r:Rs) (hck:AQ s=0) (hs:0<=slot/\slot<=109951162) (hna:¬((C2 s slot (atM s.tb slot).1).kind=1/\(C2 s slot (atM s.tb slot).1).BF=1/\r.AT=true)):
  FnS Tryz.prog 130 [stA s,AI slot,rsA r] [] (.tup [stA (CJ s slot (atM s.tb slot).1 r).1,upA (CJ s slot (atM s.tb slot).1 r).2,AI 0]) []:=by
 obtain⟨_,_,_,_,hsn,_,hrb⟩:=Bf hck;have hrb:=FH hrb;have hpw:=(Ad3 s.back).resolve_left (by omega) |>.resolve_left (by omega);refine fb Tryz.func130 (by kernel_rfl) rfl Tryz.ntmps130 Tryz.results130 rfl rfl rfl rfl fun E hS=>?_
 refine AJ ?_
 repeat'(first|refine sR ?_|refine Ak rfl (by exact tt0) ?_|(refine gC ?_;first|refine Aa (GB s slot hck hs) (gk rfl) rfl rfl rfl (by(simp only[A0,wfL,AH,wfs,Ae,Ad];rfl)) rfl (by((simp only[Ex,List.map_cons,List.map_nil,Blk.shift,Cr])<;>rfl)) rfl ?_)|refine sq 4 rfl ?_|(refine gD ?_;first|refine Ah rfl ?_)|fail)
 all_goals first
  |(exfalso;omega)
  |skip
 generalize atM s.tb slot=ac at hna ⊢;obtain⟨c,ok⟩:=ac;dsimp only at hna ⊢;refine VC.le (σ':=AS [(5,.c (.ptr 5 0)),(6,.c (.ptr 6 0)),(7,.c (.ptr 7 0)),(8,AI 0),(9,.c (.ptr 100 0))] [(5,.box r.cs),(6,.box noS.cs),(7,.box zUp.cs),(100,.box (wcs s (.d (hds s.held)) (.row 102 s.seen.length) slot c)),(102,.row 123 2 (rowOf Sn.enc s.seen))]) ?_ ?_
 ·refine Bm (fun n=>if n=100 then 19100 else if n=102 then 19102 else n) [19101] hS ?_ ?_ rfl (by(simp only[wfL,wfs,Ae,Ad];rfl))
  all_goals repeat'(first|exact tt0|refine⟨⟨_,rfl,?_⟩,?_⟩|exact .c .d|exact .c (.ptr rfl)|exact .Bs rfl rfl|exact .Bc rfl Ag|refine .box ?_|exact .nil|refine .cons ?_ ?_|exact .d|exact .row rfl rfl|exact .Cd (by(simp;done)) rfl rfl (fun _=>rfl)|fail)
 by_cases k1:(C2 s slot c).kind=1
 ·have d1:decide ((C2 s slot c).kind=1)=true:=Agj k1;by_cases k2:(C2 s slot c).BF=1
  ·have d2:decide ((C2 s slot c).BF=1)=true:=Agj k2;have hac:r.AT=false:=by
    cases h:r.AT with
    |true=>exact absurd ⟨k1,k2,h⟩ hna
    |false=>rfl
   have e:CJ s slot c r=(s,zUp):=by rw[CJ,AgZ ⟨k1,k2⟩,AgY (by rw[hac];simp)]
   rw[e]
   repeat'(first|refine sC ?_|refine Ak rfl (by exact tt0) ?_|(refine gC ?_;first|refine AF [100,102] (Cj s slot c hck) (gk rfl) rfl (by(repeat'(first|exact .nil|refine .cons ?_ ?_|exact(KY (by simp) rfl .d (A9 (by simp) rfl rfl (fun _=>rfl)))))<;>fail) (by rfl) rfl (by rfl) rfl (by exact Av) rfl ?_)|(refine gN ?_;first|refine Aj (gk rfl) rfl rfl ?_)|refine Az rfl (by assumption) ?_|refine Ap (by kernel_rfl) ?_|(refine gD ?_;first|refine Ai rfl ?_|refine Ah rfl ?_|refine At rfl (by assumption) ?_)|fail)
   refine Ao (Bm (l:=[(6,.c (.ptr 6 0)),(7,.c (.ptr 7 0)),(8,AI 0)]) (b:=[(6,.box s.cs),(7,.box zUp.cs)]) (fun n=>n) [102] hS ?_ ?_ rfl (by rfl)) (Ba Ab rfl rfl rfl rfl rfl rfl rfl rfl rfl rfl rfl rfl)
   all_goals repeat'(first|exact tt0|refine⟨⟨_,rfl,?_⟩,?_⟩|exact .c .d|exact .c (.ptr rfl)|exact .Bs rfl rfl|refine .box ?_|exact .nil|refine .cons ?_ ?_|exact .d|exact .Cd (by(simp;done)) rfl rfl (fun _=>rfl)|fail)
  ·have d2:decide ((C2 s slot c).BF=1)=false:=Agk k2;have e:CJ s slot c r=(CS s c r.AT,zUp):=by rw[CJ,AgY (fun h=>k2 h.2),AgZ k1]
   rw[e];have ht:(CS s c r.AT).seen=s.seen/\(CS s c r.AT).held=s.held:=by
    unfold CS TA L5 Dg
    repeat' split
    all_goals exact⟨rfl,rfl⟩
   have e3:stA (CS s c r.AT)=.agg ((CS s c r.AT).csR (.d (hds s.held)) (.d (sns s.seen))):=by rw[<-ht.1,<-ht.2];rfl
   rw[show(CS s c r.AT,zUp).1=CS s c r.AT from rfl,e3]
   repeat'(first|(refine gR ?_;first|refine Ak rfl (by exact tt0) ?_|(refine gC ?_;first|refine AF [100,102] (Cj s slot c hck) (gk rfl) rfl (by(repeat'(first|exact .nil|refine .cons ?_ ?_|exact(KY (by simp) rfl .d (A9 (by simp) rfl rfl (fun _=>rfl)))))<;>fail) (by rfl) rfl (by rfl) rfl (by exact Av) rfl ?_|refine B4 (nmL []) [] [100,102] (SI s slot c r.AT hck) (gk rfl) rfl rfl (by(repeat'(first|exact .nil|refine .cons ?_ ?_|exact .w (.c (.ptr rfl)) rfl|exact .r (.of0 (.c .d))))<;>fail) (by(repeat'(first|exact tt0|refine⟨⟨_,rfl,?_⟩,?_⟩|exact .Bc rfl Ag|refine .box ?_|exact .nil|refine .cons ?_ ?_|exact .d|exact .row rfl rfl))<;>fail) rfl rfl rfl (by rfl) rfl (by(simp only[A0,wfL,AH,wfs,Ae,Ad];rfl)) rfl rfl rfl (by(simp only[F5,List.map_cons,List.map_nil,Blk.ren,C.ren,Bp,BU,BT,gW,D1,nmL,Nat.reduceBEq,Bool.or_false,Bool.or_true,Bool.false_or,Bool.true_or,cond_true,cond_false,Nat.reduceMul,Nat.reduceAdd])<;>rfl) (by(simp only[AV.ren,AV.HQ,List.map_cons,List.map_nil,C.ren,gW,D1,nmL,Nat.reduceBEq,Bool.or_false,Bool.or_true,Bool.false_or,Bool.true_or,cond_true,cond_false,Nat.reduceMul,Nat.reduceAdd])<;>rfl) rfl ?_)|(refine gN ?_;first|refine Aj (gk rfl) rfl rfl ?_)|refine Az rfl (by assumption) ?_)|(refine gO ?_;first|refine De ?_|refine Ap (by kernel_rfl) ?_)|(refine gT ?_;first|refine B1 ?_)|(refine gK ?_;first|refine Gj ?_)|refine BC ?_|refine Bg ?_|refine Cp ?_|(show VC _ (.cond _ _ _) _ _;first|refine Ai rfl ?_|refine Ah rfl ?_|refine At rfl (by assumption) ?_)|refine IZ ?_|refine B0 ?_)
   refine Ao (Bm (l:=[(6,.c (.ptr 6 0)),(7,.c (.ptr 7 0)),(8,AI 0)]) (b:=[(6,.box ((CS s c r.AT).csR (.d (hds s.held)) (.d (sns s.seen)))),(7,.box zUp.cs)]) (fun n=>n) [102] hS ?_ ?_ rfl (by rfl)) (Ba Ab rfl rfl rfl rfl rfl rfl rfl rfl rfl rfl rfl rfl)
   all_goals repeat'(first|exact tt0|refine⟨⟨_,rfl,?_⟩,?_⟩|exact .c .d|exact .c (.ptr rfl)|exact .Bs rfl rfl|refine .box ?_|exact .nil|refine .cons ?_ ?_|exact .d|exact .Cd (by decide) rfl rfl (fun _=>rfl)|fail)
 ·have d1:decide ((C2 s slot c).kind=1)=false:=Agk k1;by_cases k3:(C2 s slot c).kind=2
  ·have d3:decide ((C2 s slot c).kind=2)=true:=Agj k3;by_cases hw:(G3 s).isSome=true/\c.kind=3
   ·have hw':L8 s c={s with wait:=s.wait-1}:=AgZ hw;have d5:(G3 s).isSome=true:=hw.1;have d6:decide (c.kind=3)=true:=Agj hw.2;cases hh:r.heard with
    |false=>
     have e:CJ s slot c r=({s with wait:=s.wait-1},zUp):=by rw[CJ,AgY (fun h=>k1 h.1),AgY k1,AgZ k3,AgY (by rw[hh];simp),hw']
     rw[e]
     repeat'(first|refine sC ?_|refine Ak rfl (by first|exact tt0|omega) ?_|(refine gC ?_;first|refine AF [100,102] (Cj s slot c hck) (gk rfl) rfl (by(repeat'(first|exact .nil|refine .cons ?_ ?_|exact(KY (by simp) rfl .d (A9 (by simp) rfl rfl (fun _=>rfl)))))<;>fail) (by rfl) rfl (by rfl) rfl (by exact Av) rfl ?_|refine AF [100,102] (Cc s slot c) (gk rfl) rfl (by(repeat'(first|exact .nil|refine .cons ?_ ?_|exact(KY (by simp) rfl .d (A9 (by simp) rfl rfl (fun _=>rfl)))))<;>fail) (by rfl) rfl (by rfl) rfl (by exact Av) rfl ?_)|(refine gN ?_;first|refine Aj (gk rfl) rfl rfl ?_)|refine Az rfl (by assumption) ?_|refine Ap (by kernel_rfl) ?_|(refine gD ?_;first|refine Ai rfl ?_|refine Ah rfl ?_|refine At rfl (by assumption) ?_)|fail)
     all_goals first
      |(exfalso;omega)
      |(exfalso;simp_all;done)
      |skip
     refine Ao (Bm (l:=[(6,.c (.ptr 6 0)),(7,.c (.ptr 7 0)),(8,AI 0)]) (b:=[(6,.box (Sta.cs {s with wait:=s.wait-1})),(7,.box zUp.cs)]) (fun n=>n) [102] hS ?_ ?_ rfl (by rfl)) (Ba Ab rfl rfl rfl rfl rfl rfl rfl rfl rfl rfl rfl rfl)
     all_goals repeat'(first|exact tt0|refine⟨⟨_,rfl,?_⟩,?_⟩|exact .c .d|exact .c (.ptr rfl)|exact .Bs rfl rfl|refine .box ?_|exact .nil|refine .cons ?_ ?_|exact .d|exact .Cd (by(simp;done)) rfl rfl (fun _=>rfl)|fail)
    |true=>
     have e:CJ s slot c r=B7 {s with wait:=s.wait-1} (KW r):=by rw[CJ,AgY (fun h=>k1 h.1),AgY k1,AgZ k3,AgZ hh,hw']
     have e3:=MR {s with wait:=s.wait-1} (KW r);rw[e];rw[e3]
     repeat'(first|(refine gR ?_;first|refine Ak rfl (by first|exact tt0|omega) ?_|(refine gC ?_;first|refine AF [100,102] (Cj s slot c hck) (gk rfl) rfl (by(repeat'(first|exact .nil|refine .cons ?_ ?_|exact(KY (by simp) rfl .d (A9 (by simp) rfl rfl (fun _=>rfl)))))<;>fail) (by rfl) rfl (by rfl) rfl (by exact Av) rfl ?_|refine AF [100,102] (Cc s slot c) (gk rfl) rfl (by(repeat'(first|exact .nil|refine .cons ?_ ?_|exact(KY (by simp) rfl .d (A9 (by simp) rfl rfl (fun _=>rfl)))))<;>fail) (by rfl) rfl (by rfl) rfl (by exact Av) rfl ?_|refine B4 (nmL []) [] [100] (C6 {s with wait:=s.wait-1} slot c (KW r) hsn) (gk rfl) rfl rfl (by(repeat'(first|exact .nil|refine .cons ?_ ?_|exact .w (.c (.ptr rfl)) rfl|refine .r ?_|refine .of0 (.agg ?_)|exact .d))<;>fail) (by(repeat'(first|exact tt0|refine⟨⟨_,rfl,?_⟩,?_⟩|exact .Bc rfl Ag|refine .box ?_|exact .nil|refine .cons ?_ ?_|exact .d|exact .row rfl rfl))<;>fail) rfl rfl rfl (by rfl) rfl (by(simp only[A0,wfL,AH,wfs,Ae,Ad];rfl)) rfl rfl rfl (by(simp only[F5,List.map_cons,List.map_nil,Blk.ren,C.ren,Bp,BU,BT,gW,D1,nmL,Nat.reduceBEq,Bool.or_false,Bool.or_true,Bool.false_or,Bool.true_or,cond_true,cond_false,Nat.reduceMul,Nat.reduceAdd])<;>rfl) (by(simp only[AV.ren,AV.HQ,List.map_cons,List.map_nil,C.ren,gW,D1,nmL,Nat.reduceBEq,Bool.or_false,Bool.or_true,Bool.false_or,Bool.true_or,cond_true,cond_false,Nat.reduceMul,Nat.reduceAdd])<;>rfl) rfl ?_)|(refine gN ?_;first|refine Aj (gk rfl) rfl rfl ?_)|refine Az rfl (by assumption) ?_)|(refine gO ?_;first|refine De ?_|refine Ap (by kernel_rfl) ?_)|(refine gT ?_;first|refine B1 ?_)|(refine gK ?_;first|refine Gj ?_)|refine BC ?_|refine Bg ?_|refine Cp ?_|(show VC _ (.cond _ _ _) _ _;first|refine Ai rfl ?_|refine Ah rfl ?_|refine At rfl (by assumption) ?_)|refine IZ ?_|refine B0 ?_)
     all_goals first
      |(exfalso;omega)
      |(exfalso;simp_all;done)
      |skip
     refine Ao (Bm (l:=[(6,.c (.ptr 6 0)),(7,.c (.ptr 7 0)),(8,AI 0)]) (b:=[(6,.box ((B7 {s with wait:=s.wait-1} (KW r)).1.csR (.d (hds s.held)) (.d (sns (B7 {s with wait:=s.wait-1} (KW r)).1.seen)))),(7,.box (B7 {s with wait:=s.wait-1} (KW r)).2.cs)]) (fun n=>n) [104103] hS ?_ ?_ rfl (by rfl)) (Ba Ab rfl rfl rfl rfl rfl rfl rfl rfl rfl rfl rfl rfl)
     all_goals repeat'(first|exact tt0|refine⟨⟨_,rfl,?_⟩,?_⟩|exact .c .d|exact .c (.ptr rfl)|exact .Bs rfl rfl|refine .box ?_|exact .nil|refine .cons ?_ ?_|exact .d|exact .Cd (by decide) rfl rfl (fun _=>rfl)|fail)
   ·have hw':L8 s c=s:=AgY hw;cases d5:(G3 s).isSome with
    |false=>
     cases hh:r.heard with
     |false=>
      have e:CJ s slot c r=(s,zUp):=by rw[CJ,AgY (fun h=>k1 h.1),AgY k1,AgZ k3,AgY (by rw[hh];simp),hw']
      rw[e]
      repeat'(first|refine sC ?_|refine Ak rfl (by exact tt0) ?_|(refine gC ?_;first|refine AF [100,102] (Cj s slot c hck) (gk rfl) rfl (by(repeat'(first|exact .nil|refine .cons ?_ ?_|exact(KY (by simp) rfl .d (A9 (by simp) rfl rfl (fun _=>rfl)))))<;>fail) (by rfl) rfl (by rfl) rfl (by exact Av) rfl ?_|refine AF [100,102] (Cc s slot c) (gk rfl) rfl (by(repeat'(first|exact .nil|refine .cons ?_ ?_|exact(KY (by simp) rfl .d (A9 (by simp) rfl rfl (fun _=>rfl)))))<;>fail) (by rfl) rfl (by rfl) rfl (by exact Av) rfl ?_)|(refine gN ?_;first|refine Aj (gk rfl) rfl rfl ?_)|refine Az rfl (by assumption) ?_|refine Ap (by kernel_rfl) ?_|(refine gD ?_;first|refine Ai rfl ?_|refine Ah rfl ?_|refine At rfl (by assumption) ?_)|fail)
      all_goals first
       |(exfalso;omega)
       |(exfalso;simp_all;done)
       |skip
      refine Ao (Bm (l:=[(6,.c (.ptr 6 0)),(7,.c (.ptr 7 0)),(8,AI 0)]) (b:=[(6,.box (Sta.cs s)),(7,.box zUp.cs)]) (fun n=>n) [102] hS ?_ ?_ rfl (by rfl)) (Ba Ab rfl rfl rfl rfl rfl rfl rfl rfl rfl rfl rfl rfl)
      all_goals repeat'(first|exact tt0|refine⟨⟨_,rfl,?_⟩,?_⟩|exact .c .d|exact .c (.ptr rfl)|exact .Bs rfl rfl|refine .box ?_|exact .nil|refine .cons ?_ ?_|exact .d|exact .Cd (by(simp;done)) rfl rfl (fun _=>rfl)|fail)
     |true=>
      have e:CJ s slot c r=B7 s (KW r):=by rw[CJ,AgY (fun h=>k1 h.1),AgY k1,AgZ k3,AgZ hh,hw']
      have e3:=MR s (KW r);rw[e];rw[e3]
      repeat'(first|(refine gR ?_;first|refine Ak rfl (by exact tt0) ?_|(refine gC ?_;first|refine AF [100,102] (Cj s slot c hck) (gk rfl) rfl (by(repeat'(first|exact .nil|refine .cons ?_ ?_|exact(KY (by simp) rfl .d (A9 (by simp) rfl rfl (fun _=>rfl)))))<;>fail) (by rfl) rfl (by rfl) rfl (by exact Av) rfl ?_|refine AF [100,102] (Cc s slot c) (gk rfl) rfl (by(repeat'(first|exact .nil|refine .cons ?_ ?_|exact(KY (by simp) rfl .d (A9 (by simp) rfl rfl (fun _=>rfl)))))<;>fail) (by rfl) rfl (by rfl) rfl (by exact Av) rfl ?_|refine B4 (nmL []) [] [100] (C6 s slot c (KW r) hsn) (gk rfl) rfl rfl (by(repeat'(first|exact .nil|refine .cons ?_ ?_|exact .w (.c (.ptr rfl)) rfl|refine .r ?_|refine .of0 (.agg ?_)|exact .d))<;>fail) (by(repeat'(first|exact tt0|refine⟨⟨_,rfl,?_⟩,?_⟩|exact .Bc rfl Ag|refine .box ?_|exact .nil|refine .cons ?_ ?_|exact .d|exact .row rfl rfl))<;>fail) rfl rfl rfl (by rfl) rfl (by(simp only[A0,wfL,AH,wfs,Ae,Ad];rfl)) rfl rfl rfl (by(simp only[F5,List.map_cons,List.map_nil,Blk.ren,C.ren,Bp,BU,BT,gW,D1,nmL,Nat.reduceBEq,Bool.or_false,Bool.or_true,Bool.false_or,Bool.true_or,cond_true,cond_false,Nat.reduceMul,Nat.reduceAdd])<;>rfl) (by(simp only[AV.ren,AV.HQ,List.map_cons,List.map_nil,C.ren,gW,D1,nmL,Nat.reduceBEq,Bool.or_false,Bool.or_true,Bool.false_or,Bool.true_or,cond_true,cond_false,Nat.reduceMul,Nat.reduceAdd])<;>rfl) rfl ?_)|(refine gN ?_;first|refine Aj (gk rfl) rfl rfl ?_)|refine Az rfl (by assumption) ?_)|(refine gO ?_;first|refine De ?_|refine Ap (by kernel_rfl) ?_)|(refine gT ?_;first|refine B1 ?_)|(refine gK ?_;first|refine Gj ?_)|refine BC ?_|refine Bg ?_|refine Cp ?_|(show VC _ (.cond _ _ _) _ _;first|refine Ai rfl ?_|refine Ah rfl ?_|refine At rfl (by assumption) ?_)|refine IZ ?_|refine B0 ?_|refine EE ?_)
      all_goals first
       |(exfalso;omega)
       |(exfalso;simp_all;done)
       |skip
      refine Ao (Bm (l:=[(6,.c (.ptr 6 0)),(7,.c (.ptr 7 0)),(8,AI 0)]) (b:=[(6,.box ((B7 s (KW r)).1.csR (.d (hds s.held)) (.d (sns (B7 s (KW r)).1.seen)))),(7,.box (B7 s (KW r)).2.cs)]) (fun n=>n) [104103] hS ?_ ?_ rfl (by rfl)) (Ba Ab rfl rfl rfl rfl rfl rfl rfl rfl rfl rfl rfl rfl)
      all_goals repeat'(first|exact tt0|refine⟨⟨_,rfl,?_⟩,?_⟩|exact .c .d|exact .c (.ptr rfl)|exact .Bs rfl rfl|refine .box ?_|exact .nil|refine .cons ?_ ?_|exact .d|exact .Cd (by decide) rfl rfl (fun _=>rfl)|fail)
    |true=>
     have d6:decide (c.kind=3)=false:=Agk fun h=>hw ⟨d5,h⟩
     cases hh:r.heard with
     |false=>
      have e:CJ s slot c r=(s,zUp):=by rw[CJ,AgY (fun h=>k1 h.1),AgY k1,AgZ k3,AgY (by rw[hh];simp),hw']
      rw[e]
      repeat'(first|refine sC ?_|refine Ak rfl (by exact tt0) ?_|(refine gC ?_;first|refine AF [100,102] (Cj s slot c hck) (gk rfl) rfl (by(repeat'(first|exact .nil|refine .cons ?_ ?_|exact(KY (by simp) rfl .d (A9 (by simp) rfl rfl (fun _=>rfl)))))<;>fail) (by rfl) rfl (by rfl) rfl (by exact Av) rfl ?_|refine AF [100,102] (Cc s slot c) (gk rfl) rfl (by(repeat'(first|exact .nil|refine .cons ?_ ?_|exact(KY (by simp) rfl .d (A9 (by simp) rfl rfl (fun _=>rfl)))))<;>fail) (by rfl) rfl (by rfl) rfl (by exact Av) rfl ?_)|(refine gN ?_;first|refine Aj (gk rfl) rfl rfl ?_)|refine Az rfl (by assumption) ?_|refine Ap (by kernel_rfl) ?_|(refine gD ?_;first|refine Ai rfl ?_|refine Ah rfl ?_|refine At rfl (by assumption) ?_)|fail)
      all_goals first
       |(exfalso;omega)
       |(exfalso;simp_all;done)
       |skip
      refine Ao (Bm (l:=[(6,.c (.ptr 6 0)),(7,.c (.ptr 7 0)),(8,AI 0)]) (b:=[(6,.box (Sta.cs s)),(7,.box zUp.cs)]) (fun n=>n) [102] hS ?_ ?_ rfl (by rfl)) (Ba Ab rfl rfl rfl rfl rfl rfl rfl rfl rfl rfl rfl rfl)
      all_goals repeat'(first|exact tt0|refine⟨⟨_,rfl,?_⟩,?_⟩|exact .c .d|exact .c (.ptr rfl)|exact .Bs rfl rfl|refine .box ?_|exact .nil|refine .cons ?_ ?_|exact .d|exact .Cd (by(simp;done)) rfl rfl (fun _=>rfl)|fail)
     |true=>
      have e:CJ s slot c r=B7 s (KW r):=by rw[CJ,AgY (fun h=>k1 h.1),AgY k1,AgZ k3,AgZ hh,hw']
      have e3:=MR s (KW r);rw[e];rw[e3]
      repeat'(first|(refine gR ?_;first|refine Ak rfl (by exact tt0) ?_|(refine gC ?_;first|refine AF [100,102] (Cj s slot c hck) (gk rfl) rfl (by(repeat'(first|exact .nil|refine .cons ?_ ?_|exact(KY (by simp) rfl .d (A9 (by simp) rfl rfl (fun _=>rfl)))))<;>fail) (by rfl) rfl (by rfl) rfl (by exact Av) rfl ?_|refine AF [100,102] (Cc s slot c) (gk rfl) rfl (by(repeat'(first|exact .nil|refine .cons ?_ ?_|exact(KY (by simp) rfl .d (A9 (by simp) rfl rfl (fun _=>rfl)))))<;>fail) (by rfl) rfl (by rfl) rfl (by exact Av) rfl ?_|refine B4 (nmL []) [] [100] (C6 s slot c (KW r) hsn) (gk rfl) rfl rfl (by(repeat'(first|exact .nil|refine .cons ?_ ?_|exact .w (.c (.ptr rfl)) rfl|refine .r ?_|refine .of0 (.agg ?_)|exact .d))<;>fail) (by(repeat'(first|exact tt0|refine⟨⟨_,rfl,?_⟩,?_⟩|exact .Bc rfl Ag|refine .box ?_|exact .nil|refine .cons ?_ ?_|exact .d|exact .row rfl rfl))<;>fail) rfl rfl rfl (by rfl) rfl (by(simp only[A0,wfL,AH,wfs,Ae,Ad];rfl)) rfl rfl rfl (by(simp only[F5,List.map_cons,List.map_nil,Blk.ren,C.ren,Bp,BU,BT,gW,D1,nmL,Nat.reduceBEq,Bool.or_false,Bool.or_true,Bool.false_or,Bool.true_or,cond_true,cond_false,Nat.reduceMul,Nat.reduceAdd])<;>rfl) (by(simp only[AV.ren,AV.HQ,List.map_cons,List.map_nil,C.ren,gW,D1,nmL,Nat.reduceBEq,Bool.or_false,Bool.or_true,Bool.false_or,Bool.true_or,cond_true,cond_false,Nat.reduceMul,Nat.reduceAdd])<;>rfl) rfl ?_)|(refine gN ?_;first|refine Aj (gk rfl) rfl rfl ?_)|refine Az rfl (by assumption) ?_)|(refine gO ?_;first|refine De ?_|refine Ap (by kernel_rfl) ?_)|(refine gT ?_;first|refine B1 ?_)|(refine gK ?_;first|refine Gj ?_)|refine BC ?_|refine Bg ?_|refine Cp ?_|(show VC _ (.cond _ _ _) _ _;first|refine Ai rfl ?_|refine Ah rfl ?_|refine At rfl (by assumption) ?_)|refine IZ ?_|refine B0 ?_|refine EE ?_)
      all_goals first
       |(exfalso;omega)
       |(exfalso;simp_all;done)
       |skip
      refine Ao (Bm (l:=[(6,.c (.ptr 6 0)),(7,.c (.ptr 7 0)),(8,AI 0)]) (b:=[(6,.box ((B7 s (KW r)).1.csR (.d (hds s.held)) (.d (sns (B7 s (KW r)).1.seen)))),(7,.box (B7 s (KW r)).2.cs)]) (fun n=>n) [104103] hS ?_ ?_ rfl (by rfl)) (Ba Ab rfl rfl rfl rfl rfl rfl rfl rfl rfl rfl rfl rfl)
      all_goals repeat'(first|exact tt0|refine⟨⟨_,rfl,?_⟩,?_⟩|exact .c .d|exact .c (.ptr rfl)|exact .Bs rfl rfl|refine .box ?_|exact .nil|refine .cons ?_ ?_|exact .d|exact .Cd (by decide) rfl rfl (fun _=>rfl)|fail)
  ·have d3:decide ((C2 s slot c).kind=2)=false:=Agk k3;have e:CJ s slot c r=(s,zUp):=by rw[CJ,AgY (fun h=>k1 h.1),AgY k1,AgY k3]
   rw[e]
   repeat'(first|refine sC ?_|refine Ak rfl (by exact tt0) ?_|(refine gC ?_;first|refine AF [100,102] (Cj s slot c hck) (gk rfl) rfl (by(repeat'(first|exact .nil|refine .cons ?_ ?_|exact(KY (by simp) rfl .d (A9 (by simp) rfl rfl (fun _=>rfl)))))<;>fail) (by rfl) rfl (by rfl) rfl (by exact Av) rfl ?_)|(refine gN ?_;first|refine Aj (gk rfl) rfl rfl ?_)|refine Az rfl (by assumption) ?_|refine Ap (by kernel_rfl) ?_|(refine gD ?_;first|refine Ah rfl ?_|refine At rfl (by assumption) ?_)|fail)
   refine Ao (Bm (l:=[(6,.c (.ptr 6 0)),(7,.c (.ptr 7 0)),(8,AI 0)]) (b:=[(6,.box s.cs),(7,.box zUp.cs)]) (fun n=>n) [102] hS ?_ ?_ rfl (by rfl)) (Ba Ab rfl rfl rfl rfl rfl rfl rfl rfl rfl rfl rfl rfl)
   all_goals repeat'(first|exact tt0|refine⟨⟨_,rfl,?_⟩,?_⟩|exact .c .d|exact .c (.ptr rfl)|exact .Bs rfl rfl|refine .box ?_|exact .nil|refine .cons ?_ ?_|exact .d|exact .Cd (by(simp;done)) rfl rfl (fun _=>rfl)|fail)
end Go.Proofs
end
