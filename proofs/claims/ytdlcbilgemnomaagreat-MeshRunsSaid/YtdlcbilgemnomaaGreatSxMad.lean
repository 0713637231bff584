/-
  Functions' results, and laws on them. No condition.
-/
import Derived.Test.YtdlcbilgemnomaaGreatSxMab
set_option linter.unusedSimpArgs false
set_option linter.unusedVariables false
set_option maxHeartbeats 16000000
open Go.Proofs.Tryz
namespace Go.Proofs.Q
open Go Go.Sx
set_option maxRecDepth 4000
attribute [local irreducible] VR VC thenQ blockQ retL
theorem D5 {q:Qu} {id:Int}:decide (0<=oI (JR q.Ab id))=q.Ab.any fun x=>decide (x.id=id):=EL _ _
theorem GY (q:Qu) (p:Pk):Ak 222 [quA q,pkA p] (.tup [quA (DP q p).1,AD (pks (DP q p).2.1),AI (DP q p).2.2]):=by
 have hck:=FQ q;have hfm:=JU p;refine Ao func222 ntmps222 results222 fun E hS=>?_
 refine AG ?_;by_cases hc:Br q=0
 ·rw[hc] at hck;obtain⟨hl1,hl2,hl3⟩:=B9 hc;by_cases hf:Eo p=0
  ·rw[hf] at hfm;have hat:=Jh q.Ab (fun x=>decide (p.prio<x.prio));have hat2:=Jh (q.Ab.take (q.Ab.length-1)) (fun x=>decide (p.prio<x.prio));have e:DP q p=if(q.Ab.any fun x=>decide (x.id=p.id))=true then(noQ,[],6)
     else if q.Ab.length=q.Be then
      if(q.Ab.getD (q.Ab.length-1) default).prio<=p.prio then(noQ,[],13)
      else(⟨q.Be,BA (q.Ab.take (q.Ab.length-1)) (atP (q.Ab.take (q.Ab.length-1)) p.prio) p⟩,[q.Ab.getD (q.Ab.length-1) default],0)
     else(⟨q.Be,BA q.Ab (atP q.Ab p.prio) p⟩,[],0):=by rw[DP,Akb (by omega),Akb (by omega)]
   repeat'(first|refine AJ ?_|refine Aa (hck) ?_|refine Aa (hfm) ?_|refine Aa (Md q p.id) ?_|refine Aa (Iw q.Ab (by omega)) ?_|refine C9 (gk rfl) rfl rfl rfl rfl rfl (by omega) (by exact An.symm) rfl ?_|refine AQ ?_|refine Hz (gk rfl) rfl rfl (by exact .row rfl (by rfl)) rfl rfl rfl (by(try dsimp only);omega) rfl rfl ?_|refine BT ?_|refine Cn (gk rfl) rfl rfl (by omega) rfl rfl rfl ?_|refine BY (gk rfl) rfl rfl (by omega) rfl rfl rfl ?_|refine sq 15 rfl ?_|(refine Av ?_ ?_<;>intro h hq)|fail)
   ·rw[Akc (by rw[<-D5];exact h)] at e;rw[e];exact Ag (Al (l:=[(4,.c (.ptr 4 0)),(5,AD (pks [])),(6,AI 6)]) (b:=[(4,.box noQ.cs)])) AL
   ·have hn:((q.Ab.length:Int)-1).toNat=q.Ab.length-1:=by omega
    rw[hn] at hq;rw[Akb (by rw[<-D5];simp;omega),Akc (by omega),Akc hq] at e;rw[e];exact Ag (Al (l:=[(4,.c (.ptr 4 0)),(5,AD (pks [])),(6,AI 13)]) (b:=[(4,.box noQ.cs)])) AL
   ·have hn:((q.Ab.length:Int)-1).toNat=q.Ab.length-1:=by omega
    rw[hn] at hq h;have hlt:(q.Ab.take (q.Ab.length-1)).length=q.Ab.length-1:=by rw[AjD];omega
    rw[Akb (by rw[<-D5];simp;omega),Akc (by omega),Akb (by omega)] at e;rw[e];refine VC.le (σ':=AN [(2,.c (.ptr 2 0)),(3,.c (.ptr 3 0)),(4,.c (.ptr 4 0)),(8,.c (.row 8 (q.Ab.take (q.Ab.length-1)).length)),(9,AD (pks [q.Ab.getD (q.Ab.length-1) default]))]
     [(2,.box q.cs),(3,.box p.cs),(4,.box noQ.cs),(8,.row 120 6 (rowOf Pk.enc (q.Ab.take (q.Ab.length-1))))]) ?_ ?_
    ·rw[hn];refine DL (fun n=>if n=8 then 30007 else n) [54] hS ?_ ?_ rfl (by(simp only[wfL,wfs];rfl))
     all_goals repeat'(first|exact tt0|refine⟨⟨_,rfl,?_⟩,?_⟩|exact .c (.ptr rfl)|(refine .c (.row rfl ?_);((try dsimp only);first|omega);done)|exact .c (.Bm (by(simp;done)) rfl rfl (fun _=>rfl))|exact .FA rfl rfl|refine .box ?_|exact .nil|refine .cons ?_ ?_|exact .d|fail)
     exact .AfP (q.Ab.length-1) Dj
    ·cases ht:Ft (q.Ab.take (q.Ab.length-1)) (fun x=>decide (p.prio<x.prio)) with
     |none=>
      rw[ht] at hat2;have h':Ak 210 [AD (pks (q.Ab.take (q.Ab.length-1))),.clo (Cg fun x=>decide (p.prio<x.prio))] (AI (-1)):=hat2;have ha:atP (q.Ab.take (q.Ab.length-1)) p.prio=((q.Ab.take (q.Ab.length-1))).length:=by rw[atP,ht];rfl
      repeat'(first|refine Ad ?_|refine Cd [3,8] (h') (gk rfl) rfl (by(repeat'(first|exact .nil|refine .cons ?_ ?_|exact(Lj (by simp) rfl)|exact(.of0 (.c (CL (by simp) rfl rfl (fun _=>rfl))))))<;>fail) (by rfl) rfl (by rfl) rfl (by rfl) rfl ?_|refine Jx [70] (JP (q.Ab.take (q.Ab.length-1)) ((q.Ab.take (q.Ab.length-1))).length p (by omega) (Akd _)) (gk rfl) rfl rfl Ai rfl (by(repeat'(first|exact .nil|refine .cons ?_ ?_|exact .of0 (.c .d)|exact .of0 (.c (M0 (by decide) rfl rfl (by repeat'(first|exact tt0|refine⟨?_,?_⟩|rfl))))))<;>fail) rfl (by exact Zn (fun _=>rfl)) rfl (by(simp only[BC,wfL,Bj,wfs];rfl)) rfl (by exact Ob) rfl ?_|refine AQ ?_|fail)
      rw[ha];refine Ag (DL (l:=[(4,.c (.ptr 4 0)),(5,AD (pks [q.Ab.getD (q.Ab.length-1) default])),(6,AI 0)]) (b:=[(4,.box (Qu.cs ⟨q.Be,BA (q.Ab.take (q.Ab.length-1)) ((q.Ab.take (q.Ab.length-1))).length p⟩))]) (fun n=>n) [71001] hS ?_ ?_ rfl (by rfl)) AL
      all_goals repeat'(first|exact tt0|refine⟨⟨_,rfl,?_⟩,?_⟩|exact .c .d|exact .c (.ptr rfl)|refine .box ?_|exact .nil|refine .cons ?_ ?_|exact .d|(refine .Bm (by(simp;done)) rfl ?_ (fun _=>rfl);((try dsimp only);first|(simp only[lns]<;>omega));done)|fail)
      all_goals(simp[BA])
     |some i=>
      rw[ht] at hat2;have h':Ak 210 [AD (pks (q.Ab.take (q.Ab.length-1))),.clo (Cg fun x=>decide (p.prio<x.prio))] (AI (i:Nat)):=hat2;have ha:atP (q.Ab.take (q.Ab.length-1)) p.prio=i:=by rw[atP,ht];rfl
      obtain⟨hi,_,_⟩:=Bs ht
      repeat'(first|refine Ad ?_|refine Cd [3,8] (h') (gk rfl) rfl (by(repeat'(first|exact .nil|refine .cons ?_ ?_|exact(Lj (by simp) rfl)|exact(.of0 (.c (CL (by simp) rfl rfl (fun _=>rfl))))))<;>fail) (by rfl) rfl (by rfl) rfl (by rfl) rfl ?_|refine Cx [70] (JP (q.Ab.take (q.Ab.length-1)) i p (by omega) (Nat.le_of_lt hi)) Ai ?_|fail)
      rw[ha];refine Ag (DL (l:=[(4,.c (.ptr 4 0)),(5,AD (pks [q.Ab.getD (q.Ab.length-1) default])),(6,AI 0)]) (b:=[(4,.box (Qu.cs ⟨q.Be,BA (q.Ab.take (q.Ab.length-1)) i p⟩))]) (fun n=>n) [71001] hS ?_ ?_ rfl (by rfl)) AL
      all_goals repeat'(first|exact tt0|refine⟨⟨_,rfl,?_⟩,?_⟩|exact .c .d|exact .c (.ptr rfl)|refine .box ?_|exact .nil|refine .cons ?_ ?_|exact .d|(refine .Bm (by(simp;done)) rfl ?_ (fun _=>rfl);((try dsimp only);first|(simp only[lns]<;>omega));done)|fail)
      all_goals(simp only[BA,Ajy,Akx,AjD,AjG];simp only[AjD] at hi;omega)
   ·rw[Akb (by rw[<-D5];simp;omega),Akb (by omega)] at e;rw[e];refine VC.le (σ':=AN [(2,.c (.ptr 2 0)),(3,.c (.ptr 3 0)),(4,.c (.ptr 4 0)),(8,.c (.row 8 q.Ab.length)),(9,AD (pks []))] [(2,.box q.cs),(3,.box p.cs),(4,.box noQ.cs),(8,.row 120 6 (rowOf Pk.enc q.Ab))]) ?_ ?_
    ·exact BF (fun n=>if n=8 then 30007 else n)
    ·cases ht:Ft q.Ab (fun x=>decide (p.prio<x.prio)) with
     |none=>
      rw[ht] at hat;have h':Ak 210 [AD (pks q.Ab),.clo (Cg fun x=>decide (p.prio<x.prio))] (AI (-1)):=hat;have ha:atP q.Ab p.prio=(q.Ab).length:=by rw[atP,ht];rfl
      repeat'(first|refine Ad ?_|refine Cd [3,8] (h') (gk rfl) rfl (by(repeat'(first|exact .nil|refine .cons ?_ ?_|exact(Lj (by simp) rfl)|exact(.of0 (.c (CL (by simp) rfl rfl (fun _=>rfl))))))<;>fail) (by rfl) rfl (by rfl) rfl (by rfl) rfl ?_|refine Jx [70] (JP q.Ab (q.Ab).length p (by omega) (Akd _)) (gk rfl) rfl rfl Ai rfl (by(repeat'(first|exact .nil|refine .cons ?_ ?_|exact .of0 (.c .d)|exact .of0 (.c (M0 (by decide) rfl rfl (by repeat'(first|exact tt0|refine⟨?_,?_⟩|rfl))))))<;>fail) rfl (by exact Zn (fun _=>rfl)) rfl (by(simp only[BC,wfL,Bj,wfs];rfl)) rfl (by exact Ob) rfl ?_|refine AQ ?_|fail)
      rw[ha];refine Ag (DL (l:=[(4,.c (.ptr 4 0)),(5,AD (pks [])),(6,AI 0)]) (b:=[(4,.box (Qu.cs ⟨q.Be,BA q.Ab (q.Ab).length p⟩))]) (fun n=>n) [71001] hS ?_ ?_ rfl (by rfl)) AL
      all_goals repeat'(first|exact tt0|refine⟨⟨_,rfl,?_⟩,?_⟩|exact .c .d|exact .c (.ptr rfl)|refine .box ?_|exact .nil|refine .cons ?_ ?_|exact .d|(refine .Bm (by(simp;done)) rfl ?_ (fun _=>rfl);((try dsimp only);first|(simp only[lns]<;>omega));done)|fail)
      all_goals(simp[BA])
     |some i=>
      rw[ht] at hat;have h':Ak 210 [AD (pks q.Ab),.clo (Cg fun x=>decide (p.prio<x.prio))] (AI (i:Nat)):=hat;have ha:atP q.Ab p.prio=i:=by rw[atP,ht];rfl
      obtain⟨hi,_,_⟩:=Bs ht
      repeat'(first|refine Ad ?_|refine Cd [3,8] (h') (gk rfl) rfl (by(repeat'(first|exact .nil|refine .cons ?_ ?_|exact(Lj (by simp) rfl)|exact(.of0 (.c (CL (by simp) rfl rfl (fun _=>rfl))))))<;>fail) (by rfl) rfl (by rfl) rfl (by rfl) rfl ?_|refine Cx [70] (JP q.Ab i p (by omega) (Nat.le_of_lt hi)) Ai ?_|fail)
      rw[ha];refine Ag (DL (l:=[(4,.c (.ptr 4 0)),(5,AD (pks [])),(6,AI 0)]) (b:=[(4,.box (Qu.cs ⟨q.Be,BA q.Ab i p⟩))]) (fun n=>n) [71001] hS ?_ ?_ rfl (by rfl)) AL
      all_goals repeat'(first|exact tt0|refine⟨⟨_,rfl,?_⟩,?_⟩|exact .c .d|exact .c (.ptr rfl)|refine .box ?_|exact .nil|refine .cons ?_ ?_|exact .d|(refine .Bm (by(simp;done)) rfl ?_ (fun _=>rfl);((try dsimp only);first|(simp only[lns]<;>omega));done)|fail)
      all_goals(simp only[BA,Ajy,Akx,AjD,AjG];simp only[AjD] at hi;omega)
  ·have e:DP q p=(noQ,[],Eo p):=by rw[DP,Akb (by omega),Akc hf]
   have hd:decide (Eo p≠0)=true:=by simp[hf]
   rw[e]
   repeat'(first|refine Ad ?_|refine Aa (hck) ?_|refine Aa (hfm) ?_|fail)
   exact Ag (Al (l:=[(4,.c (.ptr 4 0)),(5,AD (pks [])),(6,AI (Eo p))]) (b:=[(4,.box noQ.cs)])) AL
 ·have e:DP q p=(noQ,[],1):=by rw[DP,Akc hc]
  have hd:decide (Br q≠0)=true:=by simp[hc]
  rw[e]
  repeat'(first|refine Ad ?_|refine Aa (hck) ?_|fail)
  exact Ag (Al (l:=[(4,.c (.ptr 4 0)),(5,AD (pks [])),(6,AI 1)]) (b:=[(4,.box noQ.cs)])) AL
def noI (id:Int) (l:List Pk) (k:Nat):List Pk:=(l.take k).filter fun x=>decide (x.id≠id)
theorem Aev (id:Int) (l:List Pk) (k:Nat):(noI id l k).length<=k:=by
 have:=Aj4 (fun x:Pk=>decide (x.id≠id)) (l.take k);rw[AjD] at this;unfold noI;omega
def K9 (q:Qu) (id:Int):Qu:=⟨q.Be,q.Ab.filter fun x=>decide (x.id≠id)⟩
theorem P2 (q:Qu) (id:Int) (hl:q.Ab.length<=100000):Ak 268 [quA q,AI id] (quA (K9 q id)):=by
 refine Ao func268 ntmps268 results268 fun E hS=>?_
 refine AG ?_
 repeat'(first|refine Af ?_|fail)
 refine VC.le (Gf (bx:=5) (nm:=44) (T:=120) (sz:=6) (j:=1) rfl rfl rfl) ?_;refine Ax (ι:=Nat) (fun k=>AN [(1,AI id),(2,.c (.ptr 2 0)),(4,.c (.ptr 4 0)),(5,.c (.ptr 5 0)),(6,AI k)] [(2,.box q.cs),(4,.box noQ.cs),(5,.box [.d (.int .i64 q.Be),.row 44 (noI id q.Ab k).length]),(44,.row 120 6 (rowOf Pk.enc (noI id q.Ab k)))])
  (fun k=>k<=q.Ab.length) (fun k=>q.Ab.length-k) 0 (Ake _) ?_ ?_
 ·exact Al
 ·intro k hk;have hnl:=Aev id q.Ab k
  repeat'(first|refine Af ?_|refine Ap ?_|(refine Av ?_ ?_<;>intro h hq)|fail)
  ·have hs:noI id q.Ab (k+1)=noI id q.Ab k++[q.Ab.getD k default]:=by
    unfold noI;rw[Dz (by omega),Akc (by simpa using hq)]
   refine BU (k+1) ?_;rw[hs];exact BF (fun n=>if n=44 then 33 else n)
  ·have hs:noI id q.Ab (k+1)=noI id q.Ab k:=by
    unfold noI;rw[Dz (by omega),Akb (by simpa using hq),AjQ]
   refine BU (k+1) ?_;rw[hs];exact Al
  ·have hk':k=q.Ab.length:=by omega
   subst hk';have hn:noI id q.Ab q.Ab.length=q.Ab.filter fun x=>decide (x.id≠id):=by unfold noI;rw[AkB]
   rw[hn];exact Ag (Cu (l:=[(4,.c (.ptr 4 0))]) (b:=[(4,.box (K9 q id).cs)]) (fun n=>n) [44] hS) Ay
theorem AcR {l:List Pk} {pr:Int} {k:Nat} (h:∀i,i<k->(l.getD i default).prio<=pr) (hk:k<=l.length) (he:k<l.length->pr<(l.getD k default).prio):atP l pr=k:=by
 unfold atP;have h0:∀i,i<k->decide (pr<(l.getD i default).prio)=false:=fun i hi=>by
  have:=h i hi;simp only[Ajx];omega
 by_cases hlt:k<l.length
 ·rw[C2 (k:=k) h0 hlt (Aju (he hlt))];rfl
 ·have:k=l.length:=by omega
  subst this;rw[CF h0];rfl
theorem H9 (q:Qu) (p:Pk):Ak 191 [quA q,pkA p] (.tup [quA (DP q p).1,AD (pks (DP q p).2.1),AI (DP q p).2.2]):=by
 have hck:=Fp q;have hfm:=Mo p;refine Ao func191 ntmps191 results191 fun E hS=>?_
 refine AG ?_;by_cases hc:Br q=0
 ·rw[hc] at hck;obtain⟨hl1,hl2,hl3⟩:=B9 hc;by_cases hf:Eo p=0
  ·rw[hf] at hfm;have e:DP q p=if(q.Ab.any fun x=>decide (x.id=p.id))=true then(noQ,[],6)
     else if q.Ab.length=q.Be then
      if(q.Ab.getD (q.Ab.length-1) default).prio<=p.prio then(noQ,[],13)
      else(⟨q.Be,BA (q.Ab.take (q.Ab.length-1)) (atP (q.Ab.take (q.Ab.length-1)) p.prio) p⟩,[q.Ab.getD (q.Ab.length-1) default],0)
     else(⟨q.Be,BA q.Ab (atP q.Ab p.prio) p⟩,[],0):=by rw[DP,Akb (by omega),Akb (by omega)]
   repeat'(first|refine AJ ?_|refine Aa (hck) ?_|refine Aa (hfm) ?_|refine Aa (Ip q.Ab p.id) ?_|refine BZ (gk rfl) rfl rfl rfl rfl rfl (by omega) rfl ?_|refine Hz (gk rfl) rfl rfl (by exact .row rfl (by rfl)) rfl rfl rfl (by(try dsimp only);omega) rfl rfl ?_|refine FB (gk rfl) rfl rfl rfl (by exact .no) (by exact .nat rfl (by omega)) (by omega) (by omega) rfl ?_|refine sq 16 rfl ?_|(refine Av ?_ ?_<;>intro h hq)|fail)
   ·rw[Akc (by rw[<-D5];exact h)] at e;rw[e];exact Ag (Al (l:=[(4,.c (.ptr 4 0)),(5,AD (pks [])),(6,AI 6)]) (b:=[(4,.box noQ.cs)])) AL
   ·have hn:((q.Ab.length:Int)-1).toNat=q.Ab.length-1:=by omega
    rw[Akb (by rw[<-D5];intro hh;have hh:=AjT hh;unfold JR at hh;omega),Akc (by omega),Akc hq] at e;rw[e];exact Ag (Al (l:=[(4,.c (.ptr 4 0)),(5,AD (pks [])),(6,AI 13)]) (b:=[(4,.box noQ.cs)])) AL
   ·have hn:((q.Ab.length:Int)-1).toNat=q.Ab.length-1:=by omega
    have hlt:(q.Ab.take (q.Ab.length-1)).length=q.Ab.length-1:=by rw[AjD];omega
    rw[Akb (by rw[<-D5];intro hh;have hh:=AjT hh;unfold JR at hh;omega),Akc (by omega),Akb (by omega)] at e;rw[e,hn];refine VC.le (σ':=AN [(2,.c (.ptr 2 0)),(3,.c (.ptr 3 0)),(4,.c (.ptr 4 0)),(8,AD (pks (q.Ab.take (q.Ab.length-1)))),(9,AD (pks [q.Ab.getD (q.Ab.length-1) default]))] [(2,.box q.cs),(3,.box p.cs),(4,.box noQ.cs)]) ?_ ?_
    ·refine DL (fun n=>n) [52] hS ?_ ?_ rfl (by rfl)
     all_goals repeat'(first|exact tt0|refine⟨⟨_,rfl,?_⟩,?_⟩|exact .c (.ptr rfl)|exact .c (.Bm (by(simp;done)) rfl rfl (fun _=>rfl))|exact .FA rfl rfl|refine .box ?_|exact .nil|refine .cons ?_ ?_|exact .d|fail)
     exact .c (.imp (DLe.head (sz:=6) q.Ab (q.Ab.length-1) (by omega)))
    ·repeat'(first|refine Af ?_|fail)
     refine VC.le (Gf (bx:=11) (nm:=44) (T:=120) (sz:=6) (j:=1) rfl rfl rfl) ?_;refine Ax (ι:=Nat) (fun k=>AN [(3,.c (.ptr 3 0)),(4,.c (.ptr 4 0)),(8,AD (pks (q.Ab.take (q.Ab.length-1)))),(9,AD (pks [q.Ab.getD (q.Ab.length-1) default])),(11,.c (.ptr 11 0)),(12,AI k)] [(3,.box p.cs),(4,.box noQ.cs),(11,.box [.d (.int .i64 q.Be),.row 44 (((q.Ab.take (q.Ab.length-1))).take k).length]),(44,.row 120 6 (rowOf Pk.enc (((q.Ab.take (q.Ab.length-1))).take k)))])
      (fun k=>k<=((q.Ab.take (q.Ab.length-1))).length/\∀i,i<k->(((q.Ab.take (q.Ab.length-1))).getD i default).prio<=p.prio) (fun k=>((q.Ab.take (q.Ab.length-1))).length-k) 0 ⟨Ake _,fun i hi=>absurd hi (Aj9 _)⟩ ?_ ?_
     ·exact Al
     ·rintro k ⟨hk,hall⟩;have hkl:(((q.Ab.take (q.Ab.length-1))).take k).length=k:=by rw[AjD];omega
      repeat'(first|refine Af ?_|refine Ap ?_|refine FB (gk rfl) rfl rfl rfl (by exact .int rfl rfl) (by exact .no) (by omega) (by omega) rfl ?_|(refine Av ?_ ?_<;>intro h hq)|fail)
      ·refine⟨k+1,⟨by omega,fun i hi=>?_⟩,by omega,?_⟩
       ·by_cases hik:i<k
        ·exact hall i hik
        ·have:i=k:=by omega
         subst this;exact hq
       ·rw[Bq (by omega)];exact BF (fun n=>if n=44 then 84 else n)
      all_goals
       have ha:=AcR (l:=(q.Ab.take (q.Ab.length-1))) (pr:=p.prio) (k:=k) hall hk (by intro hk';omega);rw[ha];refine Ag (DL (l:=[(4,.c (.ptr 4 0)),(5,AD (pks [q.Ab.getD (q.Ab.length-1) default])),(6,AI 0)]) (b:=[(4,.box (Qu.cs ⟨q.Be,BA (q.Ab.take (q.Ab.length-1)) k p⟩))]) (fun n=>n) [97] hS ?_ ?_ rfl (by rfl)) AL
       all_goals repeat'(first|exact tt0|refine⟨⟨_,rfl,?_⟩,?_⟩|exact .c .d|exact .c (.ptr rfl)|refine .box ?_|exact .nil|refine .cons ?_ ?_|exact .d|fail)
       refine .AgO (by simp) rfl ?_ ?_ (fun _=>rfl)
       ·exact(congrArg (rowOf Pk.enc (((q.Ab.take (q.Ab.length-1))).take k)++[(Pk.enc p).map C.d]++·) (Yq (enc:=Pk.enc) (sz:=6) (fun _=>rfl) (q.Ab.take (q.Ab.length-1)) k (((q.Ab.take (q.Ab.length-1))).length-k) (by omega))).trans (by rw[show(((q.Ab.take (q.Ab.length-1))).drop k).take (((q.Ab.take (q.Ab.length-1))).length-k)=((q.Ab.take (q.Ab.length-1))).drop k from Aj1 (by simp),BA,AF,AjP];rfl)
       ·simp only[BA,Ajy,Akx,AjG];omega
   ·rw[Akb (by rw[<-D5];intro hh;have hh:=AjT hh;unfold JR at hh;omega),Akb (by omega)] at e;rw[e];refine Gi [(2,.c (.ptr 2 0)),(3,.c (.ptr 3 0)),(4,.c (.ptr 4 0)),(8,AD (pks q.Ab)),(9,AD (pks []))] [(2,.box q.cs),(3,.box p.cs),(4,.box noQ.cs)] ?_
    ·repeat'(first|refine Af ?_|fail)
     refine VC.le (Gf (bx:=11) (nm:=44) (T:=120) (sz:=6) (j:=1) rfl rfl rfl) ?_;refine Ax (ι:=Nat) (fun k=>AN [(3,.c (.ptr 3 0)),(4,.c (.ptr 4 0)),(8,AD (pks q.Ab)),(9,AD (pks [])),(11,.c (.ptr 11 0)),(12,AI k)] [(3,.box p.cs),(4,.box noQ.cs),(11,.box [.d (.int .i64 q.Be),.row 44 ((q.Ab).take k).length]),(44,.row 120 6 (rowOf Pk.enc ((q.Ab).take k)))])
      (fun k=>k<=(q.Ab).length/\∀i,i<k->((q.Ab).getD i default).prio<=p.prio) (fun k=>(q.Ab).length-k) 0 ⟨Ake _,fun i hi=>absurd hi (Aj9 _)⟩ ?_ ?_
     ·exact Al
     ·rintro k ⟨hk,hall⟩;have hkl:((q.Ab).take k).length=k:=by rw[AjD];omega
      repeat'(first|refine Af ?_|refine Ap ?_|refine FB (gk rfl) rfl rfl rfl (by exact .int rfl rfl) (by exact .no) (by omega) (by omega) rfl ?_|(refine Av ?_ ?_<;>intro h hq)|fail)
      ·refine⟨k+1,⟨by omega,fun i hi=>?_⟩,by omega,?_⟩
       ·by_cases hik:i<k
        ·exact hall i hik
        ·have:i=k:=by omega
         subst this;exact hq
       ·rw[Bq (by omega)];exact BF (fun n=>if n=44 then 84 else n)
      all_goals
       have ha:=AcR (l:=q.Ab) (pr:=p.prio) (k:=k) hall hk (by intro hk';omega);rw[ha];refine Ag (DL (l:=[(4,.c (.ptr 4 0)),(5,AD (pks [])),(6,AI 0)]) (b:=[(4,.box (Qu.cs ⟨q.Be,BA q.Ab k p⟩))]) (fun n=>n) [97] hS ?_ ?_ rfl (by rfl)) AL
       all_goals repeat'(first|exact tt0|refine⟨⟨_,rfl,?_⟩,?_⟩|exact .c .d|exact .c (.ptr rfl)|refine .box ?_|exact .nil|refine .cons ?_ ?_|exact .d|fail)
       refine .AgO (by simp) rfl ?_ ?_ (fun _=>rfl)
       ·exact(congrArg (rowOf Pk.enc ((q.Ab).take k)++[(Pk.enc p).map C.d]++·) (Yq (enc:=Pk.enc) (sz:=6) (fun _=>rfl) q.Ab k ((q.Ab).length-k) (by omega))).trans (by rw[show((q.Ab).drop k).take ((q.Ab).length-k)=(q.Ab).drop k from Aj1 (by simp),BA,AF,AjP];rfl)
       ·simp only[BA,Ajy,Akx,AjG];omega
  ·have e:DP q p=(noQ,[],Eo p):=by rw[DP,Akb (by omega),Akc hf]
   have hd:decide (Eo p≠0)=true:=by simp[hf]
   rw[e]
   repeat'(first|refine Ad ?_|refine Aa (hck) ?_|refine Aa (hfm) ?_|fail)
   exact Ag (Al (l:=[(4,.c (.ptr 4 0)),(5,AD (pks [])),(6,AI (Eo p))]) (b:=[(4,.box noQ.cs)])) AL
 ·have e:DP q p=(noQ,[],1):=by rw[DP,Akc hc]
  have hd:decide (Br q≠0)=true:=by simp[hc]
  rw[e]
  repeat'(first|refine Ad ?_|refine Aa (hck) ?_|fail)
  exact Ag (Al (l:=[(4,.c (.ptr 4 0)),(5,AD (pks [])),(6,AI 1)]) (b:=[(4,.box noQ.cs)])) AL
def noP:Pk:=⟨0,0,0,0,0,⟨#[]⟩⟩
def C1 (q:Qu) (to:Int):Pk×Bool:=if Br q≠0 then(noP,false) else match TP q.Ab to with
 |none=>(noP,false)
 |some i=>(q.Ab.getD i default,true)
theorem On {q:Qu} {to:Int} (h:¬Br q=0):C1 q to=(noP,false):=by rw[C1,Akc h]
theorem He {q:Qu} {to:Int} (h:Br q=0) (hf:TP q.Ab to=none):C1 q to=(noP,false):=by rw[C1,Akb (by omega),hf]
theorem Hc {q:Qu} {to:Int} {i:Nat} (h:Br q=0) (hf:TP q.Ab to=some i):C1 q to=(q.Ab.getD i default,true):=by rw[C1,Akb (by omega),hf]
theorem OB (q:Qu) (to:Int):Ak 284 [quA q,AI to] (.tup [pkA (C1 q to).1,AB (C1 q to).2]):=by
 have hck:=FQ q;have hfi:=Xa q.Ab to;refine Ao func284 ntmps284 results284 fun E hS=>?_
 refine AG ?_;by_cases hc:Br q=0
 ·rw[hc] at hck;have hl:=B9 hc;cases hf:TP q.Ab to with
  |none=>
   rw[hf] at hfi;have hfi':Ak 307 [AD (pks q.Ab),AI to] (AI (-1)):=hfi;rw[He hc hf]
   repeat'(first|refine Ad ?_|refine Aa (hck) ?_|refine Aa (hfi') ?_|fail)
   exact Ag (Al (l:=[(4,.c (.ptr 4 0)),(5,AB false)]) (b:=[(4,.box noP.cs)])) Aj
  |some i=>
   rw[hf] at hfi;have hfi':Ak 307 [AD (pks q.Ab),AI to] (AI (i:Nat)):=hfi;obtain⟨hi,_,_⟩:=Bs hf;rw[Hc hc hf]
   repeat'(first|refine Ad ?_|refine Aa (hck) ?_|refine Aa (hfi') ?_|fail)
   all_goals try (exfalso;omega)
   exact Ag (Al (l:=[(4,.c (.ptr 4 0)),(5,AB true)]) (b:=[(4,.box (q.Ab.getD i default).cs)])) Aj
 ·rw[On hc];have hd:decide (Br q≠0)=true:=by simp[hc]
  repeat'(first|refine Ad ?_|refine Aa (hck) ?_|fail)
  exact Ag (Al (l:=[(4,.c (.ptr 4 0)),(5,AB false)]) (b:=[(4,.box noP.cs)])) Aj
theorem QN (q:Qu) (to:Int):Ak 197 [quA q,AI to] (.tup [pkA (C1 q to).1,AB (C1 q to).2]):=by
 have hck:=Fp q;refine Ao func197 ntmps197 results197 fun E hS=>?_
 refine AG ?_;by_cases hc:Br q=0
 ·rw[hc] at hck;have hl:=B9 hc
  repeat'(first|refine Af ?_|refine Aa (hck) ?_|fail)
  refine Ax (ι:=Nat) (fun k=>AN [(1,AI to),(2,.c (.ptr 2 0)),(4,.c (.ptr 4 0)),(6,AI k)] [(2,.box q.cs),(4,.box noP.cs)]) (fun k=>k<=q.Ab.length/\∀i,i<k->decide ((q.Ab.getD i default).to=to)=false) (fun k=>q.Ab.length-k) 0 ⟨Ake _,fun i hi=>absurd hi (Aj9 _)⟩ ?_ ?_
  ·exact Al
  ·intro k hk
   repeat'(first|refine Af ?_|(refine Av ?_ ?_<;>intro h hq)|fail)
   ·rw[Hc hc (i:=k) (C2 hk.2 (by omega) (Aju hq))];exact Ag (Al (l:=[(4,.c (.ptr 4 0)),(5,AB true)]) (b:=[(4,.box (q.Ab.getD k default).cs)])) Aj
   ·refine⟨k+1,⟨by omega,fun i hi=>?_⟩,by omega,?_⟩
    ·by_cases hik:i<k
     ·exact hk.2 i hik
     ·have:i=k:=by omega
      subst this;exact Ajv hq
    ·exact Al
   ·have:k=q.Ab.length:=by omega
    subst this;rw[He hc (CF hk.2)];exact Ag (Al (l:=[(4,.c (.ptr 4 0)),(5,AB false)]) (b:=[(4,.box noP.cs)])) Aj
 ·rw[On hc];have hd:decide (Br q≠0)=true:=by simp[hc]
  repeat'(first|refine Ad ?_|refine Aa (hck) ?_|fail)
  exact Ag (Al (l:=[(4,.c (.ptr 4 0)),(5,AB false)]) (b:=[(4,.box noP.cs)])) Aj
theorem Px {n:Nat} {f:Nat->Int} (h:DQ n f=0) {i:Nat} (hi:i<n):f i=0:=by
 unfold DQ at h;cases hf:(List.range n).find? (fun i=>f i != 0) with
 |none=>have:=List.find?_eq_none.1 hf i (Aj2.2 hi);simpa using this
 |some k=>
  rw[hf] at h;have:=List.find?_some hf;simp at this;exact absurd h this
theorem Xm {q:Qu} (h:Br q=0) {k:Nat} (hk:k<q.Ab.length):Ho q.Ab k=0:=by
 obtain⟨h1,h2,h3⟩:=B9 h;unfold Br at h;rw[Akb (by simp[inI];omega),Akb (by omega)] at h;exact Px h hk
theorem El {q:Qu} (h:Br q=0) {k:Nat} (hk:k<q.Ab.length):
  Eo (q.Ab.getD k default)=0/\(∀i,i<k->(q.Ab.getD i default).id≠(q.Ab.getD k default).id)/\(0<k->(q.Ab.getD (k-1) default).prio<=(q.Ab.getD k default).prio):=by
 have:=Xm h hk;unfold Ho at this
 split at this
 ·rename_i h1;exact absurd this h1
 ·rename_i h1
  split at this
  ·cases this
  ·rename_i h2
   split at this
   ·cases this
   ·rename_i h3;refine⟨by omega,fun i hi e=>h2 ?_,fun h0=>by omega⟩;rw[AjM];refine⟨q.Ab.getD i default,?_,Aju e⟩;rw[Ajt,AjC (by omega)];exact List.mem_take_iff_getElem.2 ⟨i,by omega,rfl⟩
theorem M9 {q:Qu} (h:Br q=0) {i j:Nat} (hi:i<q.Ab.length) (hj:j<q.Ab.length) (hij:i≠j):(q.Ab.getD i default).id≠(q.Ab.getD j default).id:=by
 rcases Nat.lt_or_gt_of_ne hij with hlt|hlt
 ·exact(El h hj).2.1 i hlt
 ·exact fun e=>(El h hi).2.1 j hlt e.symm
theorem PA {q:Qu} (h:Br q=0) {a:Int} {i:Nat} (hf:JR q.Ab a=some i):q.Ab.filter (fun x=>decide (x.id≠a))=q.Ab.eraseIdx i:=by
 obtain⟨hi,hc,hlt⟩:=Bs hf;have hc:=AjT hc;have e1:(q.Ab.take i).filter (fun x=>decide (x.id≠a))=q.Ab.take i:=by
  rw[List.filter_eq_self];intro x hx;obtain⟨k,hk,_,rfl⟩:=CU hx;exact Aju (AjU (hlt k hk))
 have e2:(q.Ab.drop (i+1)).filter (fun x=>decide (x.id≠a))=q.Ab.drop (i+1):=by
  rw[List.filter_eq_self];intro x hx;obtain⟨k,hk,rfl⟩:=AkG hx;rw[AjG] at hk;rw[List.getElem_drop];refine Aju fun e=>?_
  have:=M9 h (i:=i) (j:=i+1+k) hi (by omega) (by omega);rw[hc,Ajt,AjC (by omega)] at this;exact this e.symm
 conv=>lhs;rw[<-AjS i q.Ab,drop_cons hi,Akw]
 rw[e1,AkA (by rw[hc];simp),e2,List.eraseIdx_eq_take_drop_succ]
def Ke (q:Qu) (id:Int):Qu×Pk×Int:=if Br q≠0 then(noQ,noP,1) else match JR q.Ab id with
 |none=>(noQ,noP,7)
 |some i=>(⟨q.Be,q.Ab.eraseIdx i⟩,q.Ab.getD i default,0)
theorem XV {q:Qu} {to:Int} (h:¬Br q=0):Ke q to=(noQ,noP,1):=by rw[Ke,Akc h]
theorem V4 {q:Qu} {to:Int} (h:Br q=0) (hf:JR q.Ab to=none):Ke q to=(noQ,noP,7):=by rw[Ke,Akb (by omega),hf]
theorem Kd {q:Qu} {to:Int} {i:Nat} (h:Br q=0) (hf:JR q.Ab to=some i):Ke q to=(⟨q.Be,q.Ab.eraseIdx i⟩,q.Ab.getD i default,0):=by rw[Ke,Akb (by omega),hf]
theorem XU (q:Qu) (id:Int):Ak 290 [quA q,AI id] (.tup [quA (Ke q id).1,pkA (Ke q id).2.1,AI (Ke q id).2.2]):=by
 have hck:=FQ q;have hix:=Md q id;refine Ao func290 ntmps290 results290 fun E hS=>?_
 refine AG ?_;by_cases hc:Br q=0
 ·rw[hc] at hck;have hl:=B9 hc;cases hf:JR q.Ab id with
  |none=>
   rw[hf] at hix;have hix':Ak 271 [quA q,AI id] (AI (-1)):=hix;rw[V4 hc hf]
   repeat'(first|refine Ad ?_|refine Aa (hck) ?_|refine Aa (hix') ?_|fail)
   exact Ag (Al (l:=[(4,.c (.ptr 4 0)),(5,.c (.ptr 5 0)),(6,AI 7)]) (b:=[(4,.box noQ.cs),(5,.box noP.cs)])) AE
  |some i=>
   rw[hf] at hix;have hix':Ak 271 [quA q,AI id] (AI (i:Nat)):=hix;obtain⟨hi,_,_⟩:=Bs hf;rw[Kd hc hf]
   repeat'(first|refine Ad ?_|refine Aa (hck) ?_|refine Aa (hix') ?_|refine Aa (Iw q.Ab (by omega)) ?_|refine Cx [] (Z2 q.Ab i hi (by omega)) Ai ?_|fail)
   all_goals try (exfalso;omega)
   refine Ag (DL (l:=[(4,.c (.ptr 4 0)),(5,.c (.ptr 5 0)),(6,AI 0)]) (b:=[(4,.box (Qu.cs ⟨q.Be,q.Ab.eraseIdx i⟩)),(5,.box (q.Ab.getD i default).cs)]) (fun n=>n) [28000] hS ?_ ?_ rfl (by rfl)) AE
   all_goals repeat'(first|exact tt0|refine⟨⟨_,rfl,?_⟩,?_⟩|exact .c .d|exact .c (.ptr rfl)|exact .FA rfl rfl|refine .box ?_|exact .nil|refine .cons ?_ ?_|exact .d|fail)
   exact .Bm (by simp) rfl (List.length_eraseIdx_of_lt hi).symm (fun _=>rfl)
 ·rw[XV hc];have hd:decide (Br q≠0)=true:=by simp[hc]
  repeat'(first|refine Ad ?_|refine Aa (hck) ?_|fail)
  exact Ag (Al (l:=[(4,.c (.ptr 4 0)),(5,.c (.ptr 5 0)),(6,AI 1)]) (b:=[(4,.box noQ.cs),(5,.box noP.cs)])) AE
end Go.Proofs.Q
