/-
  Functions' results, and laws on them. No condition.
-/
import Derived.Test.YtdlcbilgemnomaaGreatSxMah
set_option linter.unusedSimpArgs false
set_option linter.unusedVariables false
set_option maxHeartbeats 16000000
open Go.Proofs.Tryz
namespace Go.Proofs
open Go Go.Sx Go.Proofs.T Go.Proofs.Q
set_option maxRecDepth 4000
attribute [local irreducible] VR VC thenQ blockQ retL
abbrev FT:=Int
abbrev FT.enc (x:Int):List D:=[.int .i64 x]
theorem AeG (l:List Int) (x:Int):Ak 306 [AD (ints l),AI x] (AI (oI (Ft l fun y=>decide (x=y)))):=by
 refine Ao func306 ntmps306 results306 fun E hS=>?_
 refine Bz (t:=0) rfl fun hb=>?_
 repeat'(first|refine Af ?_|fail)
 refine Ax (ι:=Nat) (fun k=>AN [(0,AD (ints l)),(1,AI x),(7,AI l.length),(8,AI k)] []) (fun k=>k<=l.length/\∀i,i<k->decide (x=l.getD i default)=false) (fun k=>l.length-k) 0 ⟨Ake _,fun i hi=>absurd hi (Aj9 _)⟩ ?_ ?_
 ·exact Al
 ·intro k hk
  repeat'(first|refine Af ?_|(refine Av ?_ ?_<;>intro h hq)|fail)
  ·refine Aw Ae rfl ?_;rw[C2 (l:=l) (p:=fun y=>decide (x=y)) hk.2 (by omega) (Aju (hq))];rfl
  ·refine⟨k+1,⟨by omega,fun i hi=>?_⟩,by omega,?_⟩
   ·by_cases hik:i<k
    ·exact hk.2 i hik
    ·have:i=k:=by omega
     subst this;exact Ajv fun e=>hq (id e)
   ·exact Al
  ·refine Aw Ae rfl ?_;have:k=l.length:=by omega
   subst this;rw[CF (l:=l) (p:=fun y=>decide (x=y)) hk.2];rfl
theorem Xj (l:List Int) (x:Int):Ak 283 [AD (ints l),AI x] (AB (l.any fun y=>decide (x=y))):=by
 refine Ao func283 ntmps283 results283 fun E hS=>?_
 repeat'(first|refine Ad ?_|refine Aa (AeG l x) ?_|fail)
 all_goals exact Aq Ae rfl (EL _ _).symm
theorem RL (s:Sta) (slot:Int) (c:TC) (hck:AU s=0):Ak 234 [wP s slot c] (acA (RJ s slot c)):=by
 have hho:=Ku s slot c c.BR;refine Ao func234 ntmps234 results234 fun E hS=>?_
 cases hsd:c.send with
 |false=>
  have hsd':(!c.send)=true:=by rw[hsd];rfl
  have e:RJ s slot c=Aez:=by rw[RJ,Akc hsd]
  rw[e]
  repeat'(first|refine Ad ?_|refine Bl (gk rfl) rfl rfl ?_|refine A9 (gk rfl) rfl rfl rfl rfl rfl ?_|fail)
  exact Ay
 |true=>
  have hsd':(!c.send)=false:=by rw[hsd];rfl
  cases hf:Kv s.held c.BR with
  |none=>
   have e:RJ s slot c=zAc:=by rw[RJ,Akb (by rw[hsd];simp),hf]
   rw[hf] at hho;have hho':Ak 175 [wP s slot c,AI c.BR] (AI (-1)):=hho;rw[e]
   repeat'(first|refine Ad ?_|refine Bl (gk rfl) rfl rfl ?_|refine A9 (gk rfl) rfl rfl rfl rfl rfl ?_|refine Aa (hho') ?_|fail)
   exact Ay
  |some i=>
   have e:RJ s slot c=if(s.held.getD i default).til<slot\/((s.held.getD i default).AH.any fun y=>decide (c.peer=y))=true then zAc else AhA s c (s.held.getD i default):=by rw[RJ,Akb (by rw[hsd];simp),hf]
   rw[hf] at hho;have hho':Ak 175 [wP s slot c,AI c.BR] (AI (i:Nat)):=hho;obtain⟨hi,_,_⟩:=Bs hf;have hfr:=DE ((Ds (Ba hck).2.2.2.1).2 i hi).1;rw[e]
   repeat'(first|refine Ad ?_|refine Bl (gk rfl) rfl rfl ?_|refine A9 (gk rfl) rfl rfl rfl rfl rfl ?_|refine Aa (hho') ?_|refine Aa (Xj (s.held.getD i default).AH c.peer) ?_|(refine Av ?_ ?_<;>intro h hq)|fail)
   all_goals try (exfalso;omega)
   ·rw[Akc (.inl hq)];exact Ay
   ·rw[Akc (.inr h)];exact Ay
   ·rw[Akb (by rintro(h1|h1);omega;rw[h] at h1;cases h1)];exact Ay
theorem Uw (s:Sta) (slot:Int) (c:TC):Ak 235 [wP s slot c] (acA (XA s c)):=by
 refine Ao func235 ntmps235 results235 fun E hS=>?_
 cases hsd:c.send with
 |false=>
  have hsd':(!c.send)=true:=by rw[hsd];rfl
  have e:XA s c=Aez:=by rw[XA,Akc hsd]
  rw[e]
  repeat'(first|refine Ad ?_|refine Bl (gk rfl) rfl rfl ?_|refine A9 (gk rfl) rfl rfl rfl rfl rfl ?_|fail)
  exact Ay
 |true=>
  have hsd':(!c.send)=false:=by rw[hsd];rfl
  have e:XA s c=if(C1 s.qu c.peer).2=true then Afj s (C1 s.qu c.peer).1 else zAc:=by rw[XA,Akb (by rw[hsd];simp)]
  rw[e]
  repeat'(first|refine Ad ?_|refine Bl (gk rfl) rfl rfl ?_|refine A9 (gk rfl) rfl rfl rfl rfl rfl ?_|refine Aa (OB s.qu c.peer) ?_|refine Aa (KN s slot c (C1 s.qu c.peer).1) ?_|(refine Av ?_ ?_<;>intro h hq)|fail)
  ·rw[Akc h];exact Ay
  ·rw[Akb (by rw[h];simp)];exact Ay
theorem GP (s:Sta) (slot:Int) (c:TC):Ak 236 [wP s slot c] (acA (XB s)):=by
 refine Ao func236 ntmps236 results236 fun E hS=>?_
 repeat'(first|refine Ad ?_|refine Bl (gk rfl) rfl rfl ?_|refine A9 (gk rfl) rfl rfl rfl rfl rfl ?_|refine Aa (Cw s slot c) ?_|refine Aa (KN s slot c (YA s (EF s))) ?_|(refine Av ?_ ?_<;>intro h hq)|fail)
 all_goals first
  |(rw[XB,Akc ⟨by assumption,by omega⟩]
    exact Ay)
  |(rw[XB,Akb (by rintro⟨h1,h2⟩;simp_all)]
    exact Ay)
theorem Ya (s:Sta) (slot:Int) (c:TC):Ak 240 [wP s slot c] (pkA (BG s c)):=by
 refine Ao func240 ntmps240 results240 fun E hS=>?_
 repeat'(first|refine Ad ?_|refine Bl (gk rfl) rfl rfl ?_|refine A9 (gk rfl) rfl rfl rfl rfl rfl ?_|refine Aa (Cw s slot c) ?_|refine Aa (OB s.qu c.peer) ?_|(refine Av ?_ ?_<;>intro h hq)|fail)
 ·rw[BG,Akc hq];exact Ay
 ·rw[BG,Akb hq];exact Ay
theorem Aig {f1 f2 f3 z:C} {kd:Int} (h1:¬kd=1) (h2:¬kd=2) (h3:¬kd=3):(FZ (Li (Li (Li [] [1] f1) [2] f2) [3] f3) [kd]).getD z=z:=by
 simp[FZ,Li];rw[Akb (fun e=>h1 e.symm),Akb (fun e=>h2 e.symm),Akb (fun e=>h3 e.symm)]
 rfl
theorem Ae5 {σ:St} {f:Nat->Nat} {L:List Nat} {x:C} {y:D} (h:x=.d y):AW σ f L (.c x) (AD y):=by subst h;exact .c .d
theorem JL {a:Ac} {o:Int} (h:a.kind=0):QX a o=a:=Akc h
theorem Lq {a:Ac} {o:Int} (h:¬a.kind=0):QX a o={a with offset:=o}:=Akb h
theorem CH (s:Sta) (slot:Int) (c:TC) (hck:AU s=0):Ak 172 [wP s slot c] (acA (CA s slot c)):=by
 obtain⟨sl,of,kd,snd,pe,fl⟩:=c;refine Ao func172 ntmps172 results172 fun E hS=>?_
 by_cases h1:kd=1
 ·subst h1;have e:CA s slot ⟨sl,of,1,snd,pe,fl⟩=QX (RJ s slot ⟨sl,of,1,snd,pe,fl⟩) of:=by rw[CA,GU,Akc rfl]
  rw[e]
  repeat'(first|refine Ad ?_|refine Jw (gk rfl) rfl rfl ?_|refine Gl (gk rfl) rfl rfl ?_|refine H2 (gk rfl) rfl rfl rfl rfl rfl rfl rfl ?_|refine H0 (gk rfl) rfl rfl rfl rfl rfl rfl rfl rfl ?_|refine OJ (by kernel_rfl) (gk rfl) rfl rfl ?_|refine Bl (gk rfl) rfl rfl ?_|refine A9 (gk rfl) rfl rfl rfl rfl rfl ?_|refine LM [] (RL s slot ⟨sl,of,1,snd,pe,fl⟩ hck) (gk rfl) rfl rfl (by(repeat'(exact .nil))<;>fail) (by rfl) rfl (by rfl) rfl (by rfl) rfl ?_|(refine Av ?_ ?_<;>intro h hq)|fail)
  ·rw[Lq hq];exact Ay
  ·rw[JL hq];exact Ay
 by_cases h2:kd=2
 ·subst h2;have e:CA s slot ⟨sl,of,2,snd,pe,fl⟩=QX (XA s ⟨sl,of,2,snd,pe,fl⟩) of:=by rw[CA,GU,Akb (by intro h;cases h),Akc rfl]
  rw[e]
  repeat'(first|refine Ad ?_|refine Jw (gk rfl) rfl rfl ?_|refine Gl (gk rfl) rfl rfl ?_|refine H2 (gk rfl) rfl rfl rfl rfl rfl rfl rfl ?_|refine H0 (gk rfl) rfl rfl rfl rfl rfl rfl rfl rfl ?_|refine OJ (by kernel_rfl) (gk rfl) rfl rfl ?_|refine Bl (gk rfl) rfl rfl ?_|refine A9 (gk rfl) rfl rfl rfl rfl rfl ?_|refine LM [] (Uw s slot ⟨sl,of,2,snd,pe,fl⟩) (gk rfl) rfl rfl (by(repeat'(exact .nil))<;>fail) (by rfl) rfl (by rfl) rfl (by rfl) rfl ?_|(refine Av ?_ ?_<;>intro h hq)|fail)
  ·rw[Lq hq];exact Ay
  ·rw[JL hq];exact Ay
 by_cases h3:kd=3
 ·subst h3;have e:CA s slot ⟨sl,of,3,snd,pe,fl⟩=QX (XB s) of:=by rw[CA,GU,Akb (by intro h;cases h),Akb (by intro h;cases h),Akc rfl]
  rw[e]
  repeat'(first|refine Ad ?_|refine Jw (gk rfl) rfl rfl ?_|refine Gl (gk rfl) rfl rfl ?_|refine H2 (gk rfl) rfl rfl rfl rfl rfl rfl rfl ?_|refine H0 (gk rfl) rfl rfl rfl rfl rfl rfl rfl rfl ?_|refine OJ (by kernel_rfl) (gk rfl) rfl rfl ?_|refine Bl (gk rfl) rfl rfl ?_|refine A9 (gk rfl) rfl rfl rfl rfl rfl ?_|refine LM [] (GP s slot ⟨sl,of,3,snd,pe,fl⟩) (gk rfl) rfl rfl (by(repeat'(exact .nil))<;>fail) (by rfl) rfl (by rfl) rfl (by rfl) rfl ?_|(refine Av ?_ ?_<;>intro h hq)|fail)
  ·rw[Lq hq];exact Ay
  ·rw[JL hq];exact Ay
 have e:CA s slot ⟨sl,of,kd,snd,pe,fl⟩=zAc:=by
  rw[CA,GU,Akb h1,Akb h2,Akb h3];exact JL rfl
 rw[e]
 repeat'(first|refine AJ ?_|refine Jw (gk rfl) rfl rfl ?_|refine Gl (gk rfl) rfl rfl ?_|refine H2 (gk rfl) rfl rfl rfl rfl rfl rfl rfl ?_|refine H0 (gk rfl) rfl rfl rfl rfl rfl rfl rfl rfl ?_|refine Bl (gk rfl) rfl rfl ?_|refine A9 (gk rfl) rfl rfl rfl rfl rfl ?_|refine sq 2 rfl ?_|fail)
 refine VC.le (σ':=AN [(2,.c (.ptr 2 0)),(3,AD (.raw .nilFunc))] [(2,.box zAc.cs)]) ?_ ?_
 ·refine lg ?_ ?_ rfl (by rfl)
  all_goals repeat'(first|exact tt0|refine⟨⟨_,rfl,?_⟩,?_⟩|exact .c (.ptr rfl)|exact .FA rfl rfl|fail)
  exact Ae5 (Aig h1 h2 h3)
 repeat'(first|refine Ad ?_|refine XJ (by kernel_rfl) (gk rfl) rfl rfl ?_|fail)
 exact Ay
theorem UW {n:Nat} {g:Nat->Int} (h:∀i,i<n->0<=g i/\g i<=31/\(0<i->g (i-1)<g i)):n<=32:=by
 have h1:∀i,i<n->(i:Int)<=g i:=by
  intro i
  induction i with
  |zero=>intro hi;have:=(h 0 hi).1;omega
  |succ i ih=>
   intro hi;have h2:=ih (by omega);have h3:=(h (i+1) hi).2.2 (by omega);rw[Nat.add_sub_cancel] at h3;omega
 rcases Akf 32 n with h4|h4
 ·have:=h1 32 h4;have:=(h 32 h4).2.1;omega
 ·exact h4
theorem Gq {l:List Int} (h:C4 l=true):∀i,i<l.length->0<=l.getD i default/\l.getD i default<=31/\(0<i->l.getD (i-1) default<l.getD i default):=by
 intro i hi;simp only[C4,Bool.not_eq_true'] at h;have:=AjU (KF h hi);omega
theorem GQ {l:List Int} (h:C4 l=true):l.length<=32:=UW (g:=fun i=>l.getD i default) (Gq h)
theorem OV {l:List Sn} (h:Gn l=true):∀i,i<l.length->0<=(l.getD i default).node/\(l.getD i default).node<=31/\0<=(l.getD i default).seq/\(l.getD i default).seq<=255/\(0<i->(l.getD (i-1) default).node<(l.getD i default).node):=by
 intro i hi;simp only[Gn,Bool.not_eq_true'] at h;have:=AjU (KF h hi);omega
theorem JC {l:List Sn} (h:Gn l=true):l.length<=32:=UW (g:=fun i=>(l.getD i default).node) fun i hi=>by
 have:=OV h i hi;exact⟨this.1,this.2.1,this.2.2.2.2⟩
theorem PF (l:List TC) (hl:l.length<=100000):FnS Tryz.prog 64 [AD (tcs l)] [] (.c (.row 7 l.length)) [(7,.row 107 6 (rowOf TC.enc l))]:=by
 refine Ao func64 ntmps64 results64 fun E hS=>?_
 refine AG ?_
 repeat'(first|refine AJ ?_|refine sq 1 rfl ?_|fail)
 refine Dw ?_;refine Dw ?_;refine GM rfl rfl rfl rfl fun b hb=>?_
 repeat'(first|refine Ad ?_|refine Ap ?_|(refine Av ?_ ?_<;>intro h hq)|fail)
 ·have h0:l=[]:=Akm (hb (by assumption));subst h0;exact Ag (le_nil (T:=107) (sz:=6) (nm:=7) (t:=2) rfl rfl) (BI Ae rfl rfl)
 ·refine Ag (A0 (l:=[(2,.c (.row 7 l.length))]) (b:=[(7,.row 107 6 (rowOf TC.enc l))]) (fun n=>n) ⟨⟨_,rfl,.c (.row rfl (by simp))⟩,tt0⟩ ⟨⟨_,rfl,.CJ ?_ Ai⟩,tt0⟩ rfl (by simp only[wfL,wfs];rfl)) (BI Ae rfl rfl);exact(Akp _).trans (Dr (enc:=TC.enc) (sz:=6) fun _=>rfl)
theorem Vy (l:List Hd) (hl:l.length<=100000):FnS Tryz.prog 214 [AD (hds l)] [] (.c (.row 7 l.length)) [(7,.row 110 5 (rowOf Hd.enc l))]:=by
 refine Ao func214 ntmps214 results214 fun E hS=>?_
 refine AG ?_
 repeat'(first|refine AJ ?_|refine sq 1 rfl ?_|fail)
 refine Dw ?_;refine Dw ?_;refine GM rfl rfl rfl rfl fun b hb=>?_
 repeat'(first|refine Ad ?_|refine Ap ?_|(refine Av ?_ ?_<;>intro h hq)|fail)
 ·have h0:l=[]:=Akm (hb (by assumption));subst h0;exact Ag (le_nil (T:=110) (sz:=5) (nm:=7) (t:=2) rfl rfl) (BI Ae rfl rfl)
 ·refine Ag (A0 (l:=[(2,.c (.row 7 l.length))]) (b:=[(7,.row 110 5 (rowOf Hd.enc l))]) (fun n=>n) ⟨⟨_,rfl,.c (.row rfl (by simp))⟩,tt0⟩ ⟨⟨_,rfl,.CJ ?_ Ai⟩,tt0⟩ rfl (by simp only[wfL,wfs];rfl)) (BI Ae rfl rfl);exact(Akp _).trans (Dr (enc:=Hd.enc) (sz:=5) fun _=>rfl)
theorem Vx (l:List Sn) (hl:l.length<=100000):FnS Tryz.prog 215 [AD (sns l)] [] (.c (.row 7 l.length)) [(7,.row 123 2 (rowOf Sn.enc l))]:=by
 refine Ao func215 ntmps215 results215 fun E hS=>?_
 refine AG ?_
 repeat'(first|refine AJ ?_|refine sq 1 rfl ?_|fail)
 refine Dw ?_;refine Dw ?_;refine GM rfl rfl rfl rfl fun b hb=>?_
 repeat'(first|refine Ad ?_|refine Ap ?_|(refine Av ?_ ?_<;>intro h hq)|fail)
 ·have h0:l=[]:=Akm (hb (by assumption));subst h0;exact Ag (le_nil (T:=123) (sz:=2) (nm:=7) (t:=2) rfl rfl) (BI Ae rfl rfl)
 ·refine Ag (A0 (l:=[(2,.c (.row 7 l.length))]) (b:=[(7,.row 123 2 (rowOf Sn.enc l))]) (fun n=>n) ⟨⟨_,rfl,.c (.row rfl (by simp))⟩,tt0⟩ ⟨⟨_,rfl,.CJ ?_ Ai⟩,tt0⟩ rfl (by simp only[wfL,wfs];rfl)) (BI Ae rfl rfl);exact(Akp _).trans (Dr (enc:=Sn.enc) (sz:=2) fun _=>rfl)
theorem PG (l:List FT) (hl:l.length<=100000):FnS Tryz.prog 216 [AD (ints l)] [] (.c (.row 7 l.length)) [(7,.row 3 1 (rowOf FT.enc l))]:=by
 refine Ao func216 ntmps216 results216 fun E hS=>?_
 refine AG ?_
 repeat'(first|refine AJ ?_|refine sq 1 rfl ?_|fail)
 refine Dw ?_;refine Dw ?_;refine GM rfl rfl rfl rfl fun b hb=>?_
 repeat'(first|refine Ad ?_|refine Ap ?_|(refine Av ?_ ?_<;>intro h hq)|fail)
 ·have h0:l=[]:=Akm (hb (by assumption));subst h0;exact Ag (le_nil (T:=3) (sz:=1) (nm:=7) (t:=2) rfl rfl) (BI Ae rfl rfl)
 ·refine Ag (A0 (l:=[(2,.c (.row 7 l.length))]) (b:=[(7,.row 3 1 (rowOf FT.enc l))]) (fun n=>n) ⟨⟨_,rfl,.c (.row rfl (by simp))⟩,tt0⟩ ⟨⟨_,rfl,.CJ ?_ Ai⟩,tt0⟩ rfl (by simp only[wfL,wfs];rfl)) (BI Ae rfl rfl);exact(Akp _).trans (Dr (enc:=FT.enc) (sz:=1) fun _=>rfl)
def Sta.csR (s:Sta) (H S:C):List C:=[.d (.int .i64 s.tb.node),.d (.int .i64 s.tb.len),.d (tcs s.tb.cells),.d (.int .i64 s.qu.Be),.d (pks s.qu.Ab),H,S,
 .d (.int .i64 s.list),.d (.int .i64 s.seq),.d (.int .i64 s.A6),.d (.int .i64 s.tries),.d (.int .i64 s.back),.d (.int .i64 s.wait),.d (.int .i64 s.Cq)]
theorem AcP {σ:St} {f:Nat->Nat} {L:List Nat} {T k:Nat} {l:List Hd} {c:C} (hk:k<l.length) (hc:CW σ f L c (.d (ints (l.getD k default).AH))):
  BW σ f L (.row T 5 ((rowOf Hd.enc l).set k (EJ ((Hd.enc (l.getD k default)).map C.d) 4 [c]))) (.row T 5 (rowOf Hd.enc l)):=by
 refine .row ?_;refine Bh.U6 (by simp) fun i a b ha hb=>?_
 have hi:i<l.length:=by have:=(Akg.1 hb).1;rwa [An] at this
 rw[Cr hi] at hb;injection hb with hb;subst hb
 by_cases hik:i=k
 ·subst hik;rw[Kg (Cr hi)] at ha;injection ha with ha;subst ha
  exact .cons .d (.cons .d (.cons .d (.cons .d (.cons hc .nil))))
 ·rw[AjR (fun e=>hik e.symm),Cr hi] at ha;injection ha with ha;subst ha
  exact CWs.refl (by simp[Hd.enc,C.isD])
theorem D7 (s:Sta) (hck:AU s=0):FnS Tryz.prog 160 [stA s] [] (.agg (s.csR (.row 101 s.held.length) (.row 102 s.seen.length)))
  [(101,.row 110 5 (rowOf Hd.enc s.held)),(102,.row 123 2 (rowOf Sn.enc s.seen))]:=by
 obtain⟨hT,hQ,_,hH,hSn,_,_⟩:=Ba hck;have hTl:=B4 hT;have hQl:=B9 hQ;have hHl:=Ds hH;have hSl:=JC hSn;refine Ao func160 ntmps160 results160 fun E hS=>?_
 refine AG ?_
 repeat'(first|refine Af ?_|refine Aa (PF s.tb.cells (by omega)) ?_|refine Aa (Iw s.qu.Ab (by omega)) ?_|refine Aa (Vy s.held (by omega)) ?_|refine Aa (Vx s.seen (by omega)) ?_|refine AQ ?_|fail)
 refine Ax (ι:=Nat) (fun k=>AN [(1,.c (.ptr 1 0)),(2,.c (.ptr 2 0)),(26,AI s.held.length),(27,AI k)] [(1,.box (s.csR (.row 101 s.held.length) (.row 102 s.seen.length))),(2,.box noS.cs),(101,.row 110 5 (rowOf Hd.enc s.held)),(102,.row 123 2 (rowOf Sn.enc s.seen))])
  (fun k=>k<=s.held.length) (fun k=>s.held.length-k) 0 (Ake _) ?_ ?_
 ·exact Cu (fun n=>if n=101 then 18007 else if n=102 then 21007 else n) [7007,11007] hS
 ·intro k hk;rcases Akf k s.held.length with hlt|hge
  ·have hal:=GQ (DE (hHl.2 k hlt).1).2.2.2.2.2.2
   repeat'(first|refine Af ?_|refine Aa (PG (s.held.getD k default).AH (by omega)) ?_|refine AS ?_|refine BY (gk rfl) rfl rfl (by omega) rfl rfl rfl ?_|refine AY ?_|(refine Av ?_ ?_<;>intro h hq)|fail)
   all_goals try (exfalso;omega)
   refine BU (k+1) ?_;refine DL (fun n=>n) [39007] hS ?_ ?_ rfl (by(simp only[wfL,wfs,AA,Az];rfl))
   all_goals repeat'(first|exact tt0|refine⟨⟨_,rfl,?_⟩,?_⟩|exact .c .d|exact .c (.ptr rfl)|exact .FA rfl rfl|exact .CJ rfl Ai|refine .box ?_|exact .nil|refine .cons ?_ ?_|exact .d|exact .row rfl rfl|fail)
   exact AcP hlt (.Bm (enc:=FT.enc) (by simp) rfl rfl (fun _=>rfl))
  ·repeat'(first|refine Af ?_|(refine Av ?_ ?_<;>intro h hq)|fail)
   all_goals try (exfalso;omega)
   exact Ag (Al (l:=[(2,.c (.ptr 2 0))]) (b:=[(2,.box (s.csR (.row 101 s.held.length) (.row 102 s.seen.length))),(101,.row 110 5 (rowOf Hd.enc s.held)),(102,.row 123 2 (rowOf Sn.enc s.seen))])) (Jr Ae (.agg rfl rfl rfl rfl .nil) rfl (by repeat'(first|exact tt0|refine⟨rfl,?_⟩)))
end Go.Proofs
